/-
  What the law leans on, one text behind the other (the base).
  Conditions: each theorem's own.
-/
import Derived.Lib.SliceRun
import Derived.Test.YtblekfkmianmeaaGreatDoorMA3
set_option maxRecDepth 100000
set_option maxHeartbeats 16000000
namespace Go.Proofs.YtblekfkmianmeaaGreatDoor
def p2 (k : Nat) : Nat := 2 ^ k
theorem p2_add (a b : Nat) : p2 a * p2 b = p2 (a + b) := (Nat.pow_add 2 a b).symm
theorem qcv {a b : Nat} (h : a ≤ b) : p2 a ≤ p2 b := Nat.pow_le_pow_right (by decide) h
theorem p2_times {a n k b : Nat} (h : n ≤ p2 k) (hb : a + k ≤ b) : p2 a * n ≤ p2 b := Nat.le_trans (Nat.mul_le_mul (Nat.le_refl _) h) (by rw [p2_add]; exact qcv hb)
theorem p2_two {a b c : Nat} (ha : a < c) (hb : b < c) : p2 a + p2 b ≤ p2 c := by
 obtain ⟨d, rfl⟩ : ∃ d, c = d + 1 := ⟨c - 1, by omega⟩
 have h1 := qcv (show a ≤ d by omega)
 have h2 := qcv (show b ≤ d by omega)
 have h3 : p2 d * 2 ≤ p2 (d + 1) := p2_times (k := 1) (by decide) (by omega)
 omega
theorem p2_pow {a k b : Nat} (h : a * k ≤ b) : p2 a ^ k ≤ p2 b := by
 unfold p2; rw [← Nat.pow_mul]; exact Nat.pow_le_pow_right (by decide) h
def Cnt (D B : Nat) (q : Rat) : Prop := ∃ z : Int, q * (D : Rat) = (z : Rat) ∧ z.natAbs ≤ B
theorem pow32' (k : Nat) : 4294967296 ^ k = 2 ^ (32 * k) := by rw [show (4294967296 : Nat) = 2 ^ 32 from rfl, ← Nat.pow_mul]
theorem wd_pow_lt {n e k : Nat} (h : n ≤ 2 ^ e) (he : e < 32 * k) : (wd n).length ≤ k := by
 apply qbr
 rw [pow32']
 exact Nat.lt_of_le_of_lt h (Nat.pow_lt_pow_right (by decide) he)
theorem p2_len {n e k : Nat} (h : n ≤ p2 e) (he : e < 32 * k) : (wd n).length ≤ k := wd_pow_lt h he
theorem Cnt.rl {D B : Nat} {q : Rat} (hD : D ≠ 0) (hDB : D ≤ B) (h : Cnt D B q) {L : Nat} (hL : (wd B).length ≤ L) : rl q ≤ L := by
 obtain ⟨z, hz, hb⟩ := h
 have hs : sgn (decide (z < 0)) z.natAbs = z := by
  unfold sgn
  by_cases hneg : z < 0
  ·simp only [hneg, decide_true, if_true]; omega
  ·simp only [hneg, decide_false, Bool.false_eq_true, if_false]; omega
 have hd : (D : Rat) ≠ 0 := fun e => hD (Rat.natCast_eq_zero_iff.1 e)
 have hq : q = qm (decide (z < 0)) z.natAbs D := by
  rw [qcu, hs, ← hz]; grind
 rw [hq]
 exact rl_qm hD (Nat.le_trans (qas hb) hL) (Nat.le_trans (qas hDB) hL)
theorem Cnt.mono {D B C : Nat} {q : Rat} (h : Cnt D B q) (hB : B ≤ C) : Cnt D C q := by
 obtain ⟨z, h1, h2⟩ := h
 exact ⟨z, h1, Nat.le_trans h2 hB⟩
def SzM (M : Nat → Nat → Rat) (m c B : Nat) : Prop := ∃ D : Nat, D ≠ 0 ∧ D ≤ B ∧ ∀ i, i < m → ∀ j, j < c → Cnt D B (M i j)
theorem SzM.swap {M : Nat → Nat → Rat} {m c B k r : Nat} (h : SzM M m c B) (hk : k < m) (hr : r < m) : SzM (fswap M k r) m c B := by
 obtain ⟨D, h1, h2, h3⟩ := h
 refine ⟨D, h1, h2, fun i hi j hj => ?_⟩
 unfold fswap
 split
 ·exact h3 r hr j hj
 ·split
  ·exact h3 k hk j hj
  ·exact h3 i hi j hj
theorem SzM.rl {M : Nat → Nat → Rat} {m c B L : Nat} (h : SzM M m c B) (hL : (wd B).length ≤ L) {i j : Nat} (hi : i < m) (hj : j < c) : rl (M i j) ≤ L := by
 obtain ⟨D, h1, h2, h3⟩ := h
 exact (h3 i hi j hj).rl h1 h2 hL
theorem clr_val {M : Nat → Nat → Rat} {k : Nat} : ∀ n i j, clr M k n i j = if i < n ∧ i ≠ k then M i j - M i k * M k j else M i j
 | 0, i, j => by rw [if_neg (by omega)]; rfl
 | n + 1, i, j => by
  have ih := clr_val (M := M) (k := k) n
  obtain ⟨r1, r2⟩ := clr_row M k n
  have e1 : ∀ j, clr M k n n j = M n j := r2 n (Nat.le_refl n)
  simp only [clr]
  rw [e1 k]
  by_cases hc : n = k ∨ M n k = 0
  ·rw [if_pos hc, ih i j]
   by_cases hi : i < n ∧ i ≠ k
   ·rw [if_pos hi, if_pos ⟨by omega, hi.2⟩]
   ·rw [if_neg hi]
    by_cases h2 : i < n + 1 ∧ i ≠ k
    ·rw [if_pos h2]
     have e : i = n := by omega
     subst e
     rcases hc with hc | hc
     ·exact absurd hc h2.2
     ·rw [hc]; grind
    ·rw [if_neg h2]
  ·rw [if_neg hc]
   unfold fless
   by_cases hi : i = n
   ·subst hi
    rw [if_pos rfl, e1 j, r1 j, if_pos ⟨by omega, fun e => hc (.inl e)⟩]
   ·rw [if_neg hi, ih i j]
    by_cases h2 : i < n ∧ i ≠ k
    ·rw [if_pos h2, if_pos ⟨by omega, h2.2⟩]
    ·rw [if_neg h2, if_neg (by omega)]
theorem natAbs_sgn {a : Int} (_ : a ≠ 0) : ∃ s : Int, (s = 1 ∨ s = -1) ∧ ((a.natAbs : Nat) : Int) = s * a := by
 by_cases hn : a < 0
 ·exact ⟨-1, .inr rfl, by omega⟩
 ·exact ⟨1, .inl rfl, by omega⟩
theorem abs_one {s z : Int} (hs : s = 1 ∨ s = -1) : (s * z).natAbs = z.natAbs := by
 rcases hs with rfl | rfl <;> omega
theorem SzM.div {M : Nat → Nat → Rat} {m c B k : Nat} (h : SzM M m c B) (hk : k < m) (hkc : k < c) (hp : M k k ≠ 0) :
  ∃ E : Nat, E ≠ 0 ∧ E ≤ 2 * (B * B) ∧ (∀ i, i < m → ∀ j, j < c → Cnt E (2 * (B * B)) (fdiv M k (M k k) i j)) ∧
   (∀ i, i < m → i ≠ k → ∀ j, j < c → Cnt E (2 * (B * B)) (fdiv M k (M k k) i k * fdiv M k (M k k) k j)) ∧
   (∀ i, i < m → i ≠ k → ∀ j, j < c → Cnt E (2 * (B * B)) (fdiv M k (M k k) i j - fdiv M k (M k k) i k * fdiv M k (M k k) k j)) := by
 obtain ⟨D, h1, h2, h3⟩ := h
 obtain ⟨a, ha, hab⟩ := h3 k hk k hkc
 have hd : (D : Rat) ≠ 0 := fun e => h1 (Rat.natCast_eq_zero_iff.1 e)
 have ha0 : a ≠ 0 := by
  intro e
  rw [e] at ha
  have h0 : M k k * (D : Rat) = 0 := by rw [ha]; rfl
  rcases Rat.mul_eq_zero.1 h0 with q | q
  ·exact hp q
  ·exact hd q
 obtain ⟨s, hs, hsa⟩ := natAbs_sgn ha0
 have hE : ((D * a.natAbs : Nat) : Rat) = (D : Rat) * ((s : Rat) * (a : Rat)) := by
  rw [Rat.natCast_mul]
  have e : ((a.natAbs : Nat) : Rat) = ((s * a : Int) : Rat) := congrArg (fun x : Int => (x : Rat)) hsa
  rw [e, Rat.intCast_mul]
 have key : ∀ j, j < c → ∃ z : Int, M k j * (D : Rat) = (z : Rat) ∧ z.natAbs ≤ B ∧ M k j / M k k * ((D * a.natAbs : Nat) : Rat) = ((s * (z * D) : Int) : Rat) := fun j hj => by
  obtain ⟨z, hz, hzb⟩ := h3 k hk j hj
  refine ⟨z, hz, hzb, ?_⟩
  rw [hE, Rat.intCast_mul, Rat.intCast_mul, ← hz, ← ha]
  have e : M k j / M k k * M k k = M k j := by grind
  have e3 : ((D : Int) : Rat) = (D : Rat) := rfl
  rw [e3]
  grind
 have oth : ∀ i, i < m → ∀ j, j < c → ∃ z : Int, M i j * (D : Rat) = (z : Rat) ∧ z.natAbs ≤ B ∧ M i j * ((D * a.natAbs : Nat) : Rat) = ((s * (z * a) : Int) : Rat) := fun i hi j hj => by
  obtain ⟨z, hz, hzb⟩ := h3 i hi j hj
  refine ⟨z, hz, hzb, ?_⟩
  rw [hE, Rat.intCast_mul, Rat.intCast_mul, ← hz]
  grind
 have prod : ∀ i, i < m → ∀ j, j < c → ∃ y : Int, y.natAbs ≤ B * B ∧ M i k * (M k j / M k k) * ((D * a.natAbs : Nat) : Rat) = ((s * y : Int) : Rat) := fun i hi j hj => by
  obtain ⟨z, hz, hzb, hz2⟩ := key j hj
  obtain ⟨x, hx, hxb⟩ := h3 i hi k hkc
  refine ⟨x * z, by rw [Int.natAbs_mul]; exact Nat.mul_le_mul hxb hzb, ?_⟩
  have e : M i k * (M k j / M k k) * ((D * a.natAbs : Nat) : Rat) = M i k * (M k j / M k k * ((D * a.natAbs : Nat) : Rat)) := by grind
  rw [e, hz2, Rat.intCast_mul, Rat.intCast_mul, Rat.intCast_mul, Rat.intCast_mul, ← hx]
  have e3 : ((D : Int) : Rat) = (D : Rat) := rfl
  rw [e3]
  grind
 have hBB : B * B ≤ 2 * (B * B) := by omega
 refine ⟨D * a.natAbs, Nat.mul_ne_zero h1 (by omega), Nat.le_trans (Nat.mul_le_mul h2 hab) hBB, fun i hi j hj => ?_, fun i hi hne j hj => ?_, fun i hi hne j hj => ?_⟩
 ·unfold fdiv
  split
  ·rename_i e; subst e
   obtain ⟨z, _, hzb, hz⟩ := key j hj
   refine ⟨_, hz, ?_⟩
   rw [abs_one hs, Int.natAbs_mul, Int.natAbs_natCast]
   exact Nat.le_trans (Nat.mul_le_mul hzb h2) hBB
  ·obtain ⟨z, _, hzb, hz⟩ := oth i hi j hj
   refine ⟨_, hz, ?_⟩
   rw [abs_one hs, Int.natAbs_mul]
   exact Nat.le_trans (Nat.mul_le_mul hzb hab) hBB
 ·unfold fdiv
  rw [if_neg hne, if_pos rfl]
  obtain ⟨y, hy, he⟩ := prod i hi j hj
  exact ⟨_, he, by rw [abs_one hs]; omega⟩
 ·unfold fdiv
  rw [if_neg hne, if_neg hne, if_pos rfl]
  obtain ⟨y, hy, he⟩ := prod i hi j hj
  obtain ⟨z, _, hzb, hz⟩ := oth i hi j hj
  refine ⟨s * (z * a - y), ?_, ?_⟩
  ·have e : (M i j - M i k * (M k j / M k k)) * ((D * a.natAbs : Nat) : Rat) = M i j * ((D * a.natAbs : Nat) : Rat) - M i k * (M k j / M k k) * ((D * a.natAbs : Nat) : Rat) := by grind
   rw [e, hz, he, ← Rat.intCast_sub]
   congr 1
   rw [Int.mul_sub]
  ·rw [abs_one hs]
   have h5 : (z * a).natAbs ≤ B * B := by rw [Int.natAbs_mul]; exact Nat.mul_le_mul hzb hab
   omega
theorem SzM.next {M : Nat → Nat → Rat} {m c B k r : Nat} (h : SzM M m c B) (hk : k < m) (hkc : k < c) (hr : r < m) (hp : M r k ≠ 0) :
  SzM (clr (fdiv (fswap M k r) k (M r k)) k m) m c (2 * (B * B)) := by
 have hkk : fswap M k r k k = M r k := by unfold fswap; rw [if_pos rfl]
 obtain ⟨E, e0, e1, e2, _, e3⟩ := (h.swap hk hr).div hk hkc (by rw [hkk]; exact hp)
 rw [hkk] at e2 e3
 refine ⟨E, e0, e1, fun i hi j hj => ?_⟩
 rw [clr_val]
 split
 ·rename_i hc; exact e3 i hi hc.2 j hj
 ·exact e2 i hi j hj
def bk (k : Nat) : Nat := p2 (301 * 2 ^ k - 1)
theorem bk_zero : bk 0 = p2 300 := congrArg p2 (by decide)
theorem bk_succ (k : Nat) : 2 * (bk k * bk k) = bk (k + 1) := by
 unfold bk
 have h : 0 < 2 ^ k := Nat.pow_pos (by decide)
 rw [p2_add, Nat.mul_comm, show ∀ a, p2 a * 2 = p2 (a + 1) from fun a => p2_add a 1, Nat.pow_succ 2 k]
 congr 1
 omega
theorem bk_len {k : Nat} (h : k ≤ 10) : (wd (bk k)).length ≤ 9640 := by
 apply p2_len (Nat.le_refl _)
 have : 2 ^ k ≤ 2 ^ 10 := Nat.pow_le_pow_right (by decide) h
 have e : 2 ^ 10 = 1024 := by decide
 omega
structure StepSz (M : Nat → Nat → Rat) (m c k L : Nat) : Prop where
 old : ∀ i, i < m → ∀ j, j < c → rl (M i j) ≤ L
 prod : ∀ i, i < m → i ≠ k → ∀ j, j < c → rl (M i k * M k j) ≤ L
 new : ∀ i, i < m → i ≠ k → ∀ j, j < c → rl (M i j - M i k * M k j) ≤ L
theorem stepSz {M : Nat → Nat → Rat} {m c k : Nat} (hm : k ≤ 9) (h : SzM M m c (bk k)) (hk : k < m) (hkc : k < c) (hp : M k k ≠ 0) : StepSz (fdiv M k (M k k)) m c k 9640 := by
 obtain ⟨E, e0, e1, e2, e4, e3⟩ := h.div hk hkc hp
 rw [bk_succ] at e1 e2 e3 e4
 have hl := bk_len (k := k + 1) (by omega)
 exact ⟨fun i hi j hj => (e2 i hi j hj).rl e0 e1 hl, fun i hi hne j hj => (e4 i hi hne j hj).rl e0 e1 hl, fun i hi hne j hj => (e3 i hi hne j hj).rl e0 e1 hl⟩
theorem Cnt.add {D B C : Nat} {p q : Rat} (h : Cnt D B p) (k : Cnt D C q) : Cnt D (B + C) (p + q) := by
 obtain ⟨a, ha, hb⟩ := h
 obtain ⟨b, kb, kc⟩ := k
 exact ⟨a + b, by rw [Rat.intCast_add, ← ha, ← kb]; grind, by omega⟩
theorem Cnt.neg {D B : Nat} {p : Rat} (h : Cnt D B p) : Cnt D B (-p) := by
 obtain ⟨a, ha, hb⟩ := h
 exact ⟨-a, by rw [Rat.intCast_neg, ← ha]; grind, by omega⟩
theorem Cnt.zero (D B : Nat) : Cnt D B 0 := ⟨0, by grind, by omega⟩
theorem Cnt.one (D : Nat) : Cnt D D 1 := ⟨D, by rw [Rat.one_mul]; rfl, by omega⟩
structure SmM (ms : List Mv) : Prop where
 len : ms.length ≤ 60
 pos : ∀ m ∈ ms, 0 < m.r
 big : ∀ m ∈ ms, m.r ≤ ((p2 33 : Nat) : Rat)
 den : qdd ms ≤ p2 240
theorem rate_cnt {ms : List Mv} (h : SmM ms) {m : Mv} (hm : m ∈ ms) : Cnt (qdd ms) (p2 273) m.r := by
 obtain ⟨z, hz⟩ := prodD_den ms m hm
 refine ⟨z, hz, ?_⟩
 have h0 := h.pos m hm
 have h1 := h.big m hm
 have hD : (0 : Rat) ≤ (qdd ms : Rat) := by
  have := Nat.pos_of_ne_zero (prodD_nz ms)
  exact Rat.le_of_lt (Rat.natCast_pos.2 this)
 have k0 : (0 : Rat) ≤ (z : Rat) := by rw [← hz]; exact Rat.mul_nonneg (Rat.le_of_lt h0) hD
 have k1 : (z : Rat) ≤ ((p2 33 * qdd ms : Nat) : Rat) := by
  rw [← hz, Rat.natCast_mul]
  have := Rat.mul_nonneg (show 0 ≤ ((p2 33 : Nat) : Rat) - m.r by grind) hD
  grind
 have k0' : (0 : Int) ≤ z := by exact_mod_cast k0
 have k1' : z ≤ ((p2 33 * qdd ms : Nat) : Int) := by exact_mod_cast k1
 have k2 : p2 33 * qdd ms ≤ p2 33 * p2 240 := Nat.mul_le_mul (Nat.le_refl _) h.den
 rw [p2_add, show 33 + 240 = 273 from rfl] at k2
 omega
theorem addM_cnt {D B C : Nat} {M : Nat → Nat → Rat} {i j : Nat} {r : Rat} (h : ∀ x y, Cnt D B (M x y)) (hr : Cnt D C r) (x y : Nat) : Cnt D (B + C) (addM M i j r x y) := by
 unfold addM
 split
 ·exact (h x y).add hr
 ·exact (h x y).mono (by omega)
theorem sysM_cnt {L : Nat → Bool} {pl : Nat → Nat} {D C : Nat} : ∀ (ms : List Mv) (M : Nat → Nat → Rat) (B : Nat), (∀ m ∈ ms, Cnt D C m.r) → (∀ x y, Cnt D B (M x y)) → ∀ x y, Cnt D (B + 2 * C * ms.length) (sysM L pl ms M x y)
 | [], M, B, _, h, x, y => by simp only [sysM, List.length_nil, Nat.mul_zero, Nat.add_zero]; exact h x y
 | m :: l, M, B, hm, h, x, y => by
  simp only [sysM]
  have hr := hm m (List.mem_cons_self ..)
  have e : B + 2 * C * (m :: l).length = (B + (C + C)) + 2 * C * l.length := by
   rw [List.length_cons, Nat.mul_add, Nat.mul_one, Nat.two_mul]; omega
  rw [e]
  refine sysM_cnt l _ _ (fun k hk => hm k (List.mem_cons_of_mem _ hk)) (fun x y => ?_) x y
  split
  ·split
   ·have := addM_cnt (i := pl m.a) (j := pl m.b) (addM_cnt (i := pl m.a) (j := pl m.a) h hr) hr.neg x y
    exact this.mono (by omega)
   ·exact (addM_cnt h hr x y).mono (by omega)
  ·exact (h x y).mono (by omega)
theorem sysM_app {L : Nat → Bool} {pl : Nat → Nat} : ∀ (a b : List Mv) (M : Nat → Nat → Rat), sysM L pl (a ++ b) M = sysM L pl b (sysM L pl a M)
 | [], _, _ => rfl
 | m :: l, b, M => by
  simp only [List.cons_append, sysM]
  exact sysM_app l b _
theorem take_next {α : Type} {l : List α} {k : Nat} {x : α} (h : l[k]? = some x) : l.take (k + 1) = l.take k ++ [x] := by
 obtain ⟨h1, h2⟩ := List.getElem?_eq_some_iff.1 h
 rw [List.take_succ_eq_append_getElem h1, h2]
theorem sysM_next {L : Nat → Bool} {pl : Nat → Nat} {ms : List Mv} {k : Nat} {m : Mv} {M : Nat → Nat → Rat} (h : ms[k]? = some m) :
  sysM L pl (ms.take (k + 1)) M = (if L m.a then (if L m.b then addM (addM (sysM L pl (ms.take k) M) (pl m.a) (pl m.a) m.r) (pl m.a) (pl m.b) (- m.r) else addM (sysM L pl (ms.take k) M) (pl m.a) (pl m.a) m.r) else sysM L pl (ms.take k) M) := by
 rw [take_next h, sysM_app]; rfl
theorem sys_cnt {ms : List Mv} (h : SmM ms) (L : Nat → Bool) (pl : Nat → Nat) (k x y : Nat) : Cnt (qdd ms) (p2 281) (sysM L pl (ms.take k) (fun _ _ => 0) x y) := by
 have h1 := sysM_cnt (L := L) (pl := pl) (D := qdd ms) (C := p2 273) (ms.take k) (fun _ _ => 0) 0 (fun m hm => rate_cnt h (List.mem_of_mem_take hm)) (fun x y => Cnt.zero _ _) x y
 refine h1.mono ?_
 have hl : (ms.take k).length ≤ 60 := Nat.le_trans (by rw [List.length_take]; omega) h.len
 have h2 : p2 273 * (2 * (ms.take k).length) ≤ p2 281 := p2_times (k := 8) (Nat.le_trans (Nat.mul_le_mul (Nat.le_refl 2) hl) (by decide)) (by decide)
 rw [Nat.zero_add, Nat.mul_comm 2, Nat.mul_assoc]; exact h2
theorem cnt_rl {ms : List Mv} (h : SmM ms) {q : Rat} (hq : Cnt (qdd ms) (p2 282) q) : rl q ≤ 9 :=
 hq.rl (prodD_nz ms) (Nat.le_trans h.den (qcv (by decide))) (p2_len (Nat.le_refl _) (by decide))
theorem rate_rl {ms : List Mv} (h : SmM ms) {m : Mv} (hm : m ∈ ms) : rl m.r ≤ 9 := cnt_rl h ((rate_cnt h hm).mono (qcv (by decide)))
theorem sys_rl {ms : List Mv} (h : SmM ms) (L : Nat → Bool) (pl : Nat → Nat) (k x y : Nat) : rl (sysM L pl (ms.take k) (fun _ _ => 0) x y) ≤ 9 := cnt_rl h ((sys_cnt h L pl k x y).mono (qcv (by decide)))
theorem sys_rl2 {ms : List Mv} (h : SmM ms) {L : Nat → Bool} {pl : Nat → Nat} {k i j x y : Nat} {m : Mv} (hm : m ∈ ms) : rl (addM (sysM L pl (ms.take k) (fun _ _ => 0)) i j m.r x y) ≤ 9 :=
 cnt_rl h ((addM_cnt (fun x y => sys_cnt h L pl k x y) (rate_cnt h hm) x y).mono (p2_two (by decide) (by decide)))
theorem aug_sz {ms : List Mv} (h : SmM ms) (L : Nat → Bool) (pl : Nat → Nat) (m : Nat) : SzM (augM (sysM L pl ms (fun _ _ => 0)) m) m (m + 1) (bk 0) := by
 have e : bk 0 = p2 300 := bk_zero
 rw [e]
 refine ⟨qdd ms, prodD_nz ms, Nat.le_trans h.den (qcv (by decide)), fun i _ j _ => ?_⟩
 unfold augM
 split
 ·have := sys_cnt h L pl ms.length i j
  rw [List.take_length] at this
  exact this.mono (qcv (by decide))
 ·exact (Cnt.one _).mono (Nat.le_trans h.den (qcv (by decide)))
/-! exits -/
theorem exitS_app : ∀ (a b : List Mv) (i : Nat), qbt (a ++ b) i = qbt a i + qbt b i
 | [], b, i => by simp only [List.nil_append, qbt]; grind
 | m :: l, b, i => by
  simp only [List.cons_append, qbt]
  rw [exitS_app l b i]; grind
theorem exitS_next {ms : List Mv} {k : Nat} {m : Mv} (h : ms[k]? = some m) (i : Nat) : qbt (ms.take (k + 1)) i = if i = m.a then qbt (ms.take k) i + m.r else qbt (ms.take k) i := by
 rw [take_next h, exitS_app]
 simp only [qbt]
 by_cases e : i = m.a
 ·rw [if_pos e, if_pos e.symm]; grind
 ·rw [if_neg e, if_neg (fun q => e q.symm)]; grind
theorem exitS_cnt {D C : Nat} (i : Nat) : ∀ (ms : List Mv), (∀ m ∈ ms, Cnt D C m.r) → Cnt D (C * ms.length) (qbt ms i)
 | [], _ => by simp only [qbt]; exact Cnt.zero _ _
 | m :: l, h => by
  have ih := exitS_cnt i l (fun k hk => h k (List.mem_cons_of_mem _ hk))
  simp only [qbt]
  rw [List.length_cons, Nat.mul_add, Nat.mul_one, Nat.add_comm]
  split
  ·exact (h m (List.mem_cons_self ..)).add ih
  ·exact ((Cnt.zero D C).add ih)
theorem exit_cnt {ms : List Mv} (h : SmM ms) (k i : Nat) : Cnt (qdd ms) (p2 279) (qbt (ms.take k) i) := by
 have h1 := exitS_cnt (D := qdd ms) (C := p2 273) i (ms.take k) (fun m hm => rate_cnt h (List.mem_of_mem_take hm))
 refine h1.mono ?_
 have hl : (ms.take k).length ≤ 60 := Nat.le_trans (by rw [List.length_take]; omega) h.len
 exact p2_times (k := 6) (Nat.le_trans hl (by decide)) (by decide)
theorem exit_rl {ms : List Mv} (h : SmM ms) (k i : Nat) : rl (qbt (ms.take k) i) ≤ 9 := cnt_rl h ((exit_cnt h k i).mono (qcv (by decide)))
theorem exit_rl' {ms : List Mv} (h : SmM ms) (i : Nat) : rl (qbt ms i) ≤ 9 := by
 have := exit_rl h ms.length i
 rwa [List.take_length] at this
theorem exitS_nonneg {ms : List Mv} (i : Nat) (h : ∀ m ∈ ms, 0 < m.r) : 0 ≤ qbt ms i := by
 induction ms with
 | nil => simp only [qbt]; exact Rat.le_refl
 | cons m l ih =>
  have i1 := ih (fun k hk => h k (List.mem_cons_of_mem _ hk))
  have i2 := h m (List.mem_cons_self ..)
  simp only [qbt]
  split <;> grind
theorem rate_le_exit {ms : List Mv} (h : ∀ m ∈ ms, 0 < m.r) {m : Mv} (hm : m ∈ ms) : m.r ≤ qbt ms m.a := by
 induction ms with
 | nil => cases hm
 | cons x l ih =>
  have hl : ∀ k ∈ l, 0 < k.r := fun k hk => h k (List.mem_cons_of_mem _ hk)
  have i1 := exitS_nonneg m.a hl
  have i2 := h x (List.mem_cons_self ..)
  simp only [qbt]
  rcases List.mem_cons.1 hm with e | e
  ·subst e; rw [if_pos rfl]; grind
  ·have := ih hl e
   split <;> grind
theorem exitS_out {n : Nat} {ms : List Mv} {s0 : Nat} (hc : ChOK n ms s0) {i : Nat} (hi : ¬ i < n) : qbt ms i = 0 := by
 have h : ∀ l : List Mv, (∀ m ∈ l, m.a < n) → qbt l i = 0 := by
  intro l
  induction l with
  | nil => intro _; rfl
  | cons m l ih =>
   intro hm
   simp only [qbt]
   rw [ih (fun k hk => hm k (List.mem_cons_of_mem _ hk)), if_neg (fun e => hi (by rw [← e]; exact hm m (List.mem_cons_self ..)))]; grind
 exact h ms (fun m hm => (hc.mv m hm).1)
structure qcj (n : Nat) (ms : List Mv) (f : Rat) : Prop where
 is : ∃ i, i < n ∧ f = qbt ms i
 most : ∀ i, i < n → qbt ms i ≤ f
section
variable {n : Nat} {ms : List Mv} {s0 : Nat} {f : Rat}
theorem qcj.rl (h : qcj n ms f) (hs : SmM ms) : rl f ≤ 9 := by
 obtain ⟨i, _, rfl⟩ := h.is
 exact exit_rl' hs i
theorem qcj.nonneg (h : qcj n ms f) (hs : SmM ms) : 0 ≤ f := by
 obtain ⟨i, _, rfl⟩ := h.is
 exact exitS_nonneg i hs.pos
theorem qcj.all (h : qcj n ms f) (hs : SmM ms) (hc : ChOK n ms s0) (i : Nat) : qbt ms i ≤ f + 1 := by
 by_cases hi : i < n
 ·have := h.most i hi; grind
 ·rw [exitS_out hc hi]; have := h.nonneg hs; grind
theorem qcj.rate (h : qcj n ms f) (hs : SmM ms) (hc : ChOK n ms s0) {m : Mv} (hm : m ∈ ms) : m.r ≤ f + 1 := by
 have h1 := rate_le_exit hs.pos hm
 have h2 := h.all hs hc m.a
 grind
theorem nn_cnt {D B : Nat} {q : Rat} (hD : D ≠ 0) (h : Cnt D B q) : q.num.natAbs ≤ B := by
 obtain ⟨z, hz, hb⟩ := h
 have hs : sgn (decide (z < 0)) z.natAbs = z := by
  unfold sgn
  by_cases hneg : z < 0
  ·simp only [hneg, decide_true, if_true]; omega
  ·simp only [hneg, decide_false, Bool.false_eq_true, if_false]; omega
 have hd : (D : Rat) ≠ 0 := fun e => hD (Rat.natCast_eq_zero_iff.1 e)
 have hq : q = qm (decide (z < 0)) z.natAbs D := by
  rw [qcu, hs, ← hz]; grind
 have h1 : nn q = z.natAbs / Nat.gcd z.natAbs D := by rw [hq]; exact nn_qm hD
 have h2 : nn q ≤ z.natAbs := by rw [h1]; exact Nat.div_le_self _ _
 exact Nat.le_trans h2 hb
theorem qcj.cnt (h : qcj n ms f) (hs : SmM ms) : Cnt (qdd ms) (p2 280) (f + 1) := by
 obtain ⟨i, _, rfl⟩ := h.is
 have h1 := exit_cnt hs ms.length i
 rw [List.take_length] at h1
 refine (h1.add (Cnt.one _)).mono ?_
 have := hs.den
 exact Nat.le_trans (Nat.add_le_add (Nat.le_refl _) this) (p2_two (by decide) (by decide))
theorem qcj.rl1 (h : qcj n ms f) (hs : SmM ms) : Go.Proofs.YtblekfkmianmeaaGreatDoor.rl (f + 1) ≤ 9 := cnt_rl hs ((h.cnt hs).mono (qcv (by decide)))
theorem qcj.den (h : qcj n ms f) (hs : SmM ms) : qdd ms * (f + 1).num.natAbs ≤ p2 520 ∧ qdd ms * (f + 1).num.natAbs ≠ 0 := by
 have h1 := nn_cnt (prodD_nz ms) (h.cnt hs)
 refine ⟨Nat.le_trans (Nat.mul_le_mul hs.den h1) (by rw [p2_add]; exact qcv (by decide)), Nat.mul_ne_zero (prodD_nz ms) ?_⟩
 have h0 := h.nonneg hs
 intro e
 have : (f + 1).num = 0 := by omega
 rw [Rat.num_eq_zero] at this
 grind
theorem den_rl {E : Nat} (hE : E ≤ p2 520) (h0 : E ≠ 0) {k : Nat} (hk : k ≤ 8) {q : Rat} (h : DenB (E ^ k) q) (h1 : -((62 : Nat) : Rat) ≤ q) (h2 : q ≤ ((62 : Nat) : Rat)) : Go.Proofs.YtblekfkmianmeaaGreatDoor.rl q ≤ 131 := by
 have hp : E ^ k ≠ 0 := Nat.pos_iff_ne_zero.1 (Nat.pow_pos (Nat.pos_of_ne_zero h0))
 refine Nat.le_trans (rl_den (c := 62) hp (by decide) h h1 h2) ?_
 have e1 : E ^ k ≤ (p2 520) ^ k := Nat.pow_le_pow_left hE k
 have e2 : (p2 520) ^ k ≤ p2 4160 := p2_pow (by omega)
 have e3 : 62 * E ^ k ≤ p2 4166 := by
  have : 62 * E ^ k ≤ p2 6 * p2 4160 := Nat.mul_le_mul (by decide) (Nat.le_trans e1 e2)
  rwa [p2_add] at this
 exact p2_len e3 (by decide)
end
/-! steps -/
theorem stepA_app {dn : Nat → Bool} {q : Rat} {v : Nat → Rat} : ∀ (a b : List Mv) (w : Nat → Rat), qda dn q v (a ++ b) w = qda dn q v b (qda dn q v a w)
 | [], _, _ => rfl
 | m :: l, b, w => by
  simp only [List.cons_append, qda]
  exact stepA_app l b _
theorem stepA_next {dn : Nat → Bool} {q : Rat} {v w : Nat → Rat} {ms : List Mv} {k : Nat} {m : Mv} (h : ms[k]? = some m) :
  qda dn q v (ms.take (k + 1)) w = if dn m.a then qda dn q v (ms.take k) w else moved (qda dn q v (ms.take k) w) m.a m.b (v m.a * m.r / q) := by
 rw [take_next h, stepA_app]; rfl
section
variable {n : Nat} {ms : List Mv} {dn : Nat → Bool} {s0 : Nat} {f : Rat}
theorem dist_rl (hc : ChOK n ms s0) (hs : SmM ms) (hf : qcj n ms f) {k : Nat} (hk : k ≤ 8) (i : Nat) : rl (qbp dn (f + 1) ms s0 k i) ≤ 131 := by
 have h0 := hf.nonneg hs
 obtain ⟨h1, h2, h3⟩ := distK_den (dn := dn) hc (show 0 < f + 1 by grind) (fun i => hf.all hs hc i) (fun m hm => hf.rate hs hc hm) k i
 have e : ((62 : Nat) : Rat) = 62 := rfl
 exact den_rl (hf.den hs).1 (hf.den hs).2 hk h1 (by rw [e]; grind) (by rw [e]; grind)
theorem step_rl (hc : ChOK n ms s0) (hs : SmM ms) (hf : qcj n ms f) {k : Nat} (hk : k ≤ 7) (t i : Nat) : rl (qda dn (f + 1) (qbp dn (f + 1) ms s0 k) (ms.take t) (qbp dn (f + 1) ms s0 k) i) ≤ 131 := by
 have h0 := hf.nonneg hs
 have hq : 0 < f + 1 := by grind
 have hd := fun i => distK_den (dn := dn) hc hq (fun i => hf.all hs hc i) (fun m hm => hf.rate hs hc hm) k i
 obtain ⟨h1, h2, h3⟩ := stepA_den (dn := dn) (Q := qdd ms * (f + 1).num.natAbs) hq hd i (ms.take t) (qbp dn (f + 1) ms s0 k) 1 (fun m hm => ⟨rate_den hq (List.mem_of_mem_take hm), hs.pos m (List.mem_of_mem_take hm), hf.rate hs hc (List.mem_of_mem_take hm)⟩) (fun i => ⟨(hd i).1.up, by have := (hd i).2.1; grind, by have := (hd i).2.2; grind⟩)
 rw [← Nat.pow_succ] at h1
 have hl : (ms.take t).length ≤ 60 := Nat.le_trans (by rw [List.length_take]; omega) hs.len
 have hle : ((1 + (ms.take t).length : Nat) : Rat) ≤ ((62 : Nat) : Rat) := Rat.natCast_le_natCast.2 (by omega)
 exact den_rl (hf.den hs).1 (hf.den hs).2 (by omega) h1 (by grind) (by grind)
theorem share_rl (hc : ChOK n ms s0) (hs : SmM ms) (hf : qcj n ms f) {k : Nat} (hk : k ≤ 7) {m : Mv} (hm : m ∈ ms) : rl (qbp dn (f + 1) ms s0 k m.a * m.r) ≤ 140 ∧ rl (qbp dn (f + 1) ms s0 k m.a * m.r / (f + 1)) ≤ 150 := by
 have h1 := dist_rl (dn := dn) hc hs hf (Nat.le_trans hk (by decide)) m.a
 have h2 := rate_rl hs hm
 have h3 := hf.rl1 hs
 have h4 := rl_mul (qbp dn (f + 1) ms s0 k m.a) m.r
 have h5 := rl_div (qbp dn (f + 1) ms s0 k m.a * m.r) (f + 1) (by have := hf.nonneg hs; grind)
 constructor <;> omega
theorem sum_rl {g : Nat → Rat} {B : Nat} : ∀ n, (∀ i, i < n → rl (g i) ≤ B) → rl (qcq g n) ≤ 1 + (B + 1) * n
 | 0, _ => by simp only [qcq]; rw [rl_zero]; omega
 | n + 1, h => by
  have h1 := sum_rl n (fun i hi => h i (by omega))
  have h2 := h n (by omega)
  have h3 := rl_add (qcq g n) (g n)
  have e : (B + 1) * (n + 1) = (B + 1) * n + (B + 1) := by rw [Nat.mul_add, Nat.mul_one]
  simp only [qcq]
  omega
theorem failed_rl (hc : ChOK n ms s0) (hs : SmM ms) (hf : qcj n ms f) {k : Nat} (hk : k ≤ 8) {t : Nat} (ht : t ≤ 10) : rl (qcq (fun i => if dn i then qbp dn (f + 1) ms s0 k i else 0) t) ≤ 1400 := by
 have h := sum_rl (g := fun i => if dn i then qbp dn (f + 1) ms s0 k i else 0) (B := 131) t (fun i _ => by
  split
  ·exact dist_rl hc hs hf hk i
  ·rw [rl_zero]; decide)
 have : (131 + 1) * t ≤ (131 + 1) * 10 := Nat.mul_le_mul (Nat.le_refl _) ht
 omega
theorem part_rl (hc : ChOK n ms s0) (hs : SmM ms) (hf : qcj n ms f) (hn : n ≤ 10) : ∀ k, k ≤ 8 → rl (psumT dn (f + 1) ms s0 n k) ≤ 1 + 1500 * k
 | 0, _ => by simp only [psumT]; rw [rl_zero]; omega
 | k + 1, hk => by
  have ih := part_rl hc hs hf hn k (by omega)
  have h1 := failed_rl (dn := dn) hc hs hf (show k ≤ 8 by omega) hn
  have h2 : rl (1 - failed dn (qbp dn (f + 1) ms s0 k) n) ≤ 1402 := by
   have := rl_sub 1 (failed dn (qbp dn (f + 1) ms s0 k) n)
   have e : rl 1 ≤ 1 := by rw [rl_one]; exact Nat.le_refl _
   unfold failed at this ⊢
   omega
  have h3 := rl_add (psumT dn (f + 1) ms s0 n k) (1 - failed dn (qbp dn (f + 1) ms s0 k) n)
  simp only [psumT]
  omega
end
end Go.Proofs.YtblekfkmianmeaaGreatDoor
namespace Go.Proofs.YtblekfkmianmeaaGreatDoor
open Go.RowKit Go.ChangeShapes Go.WideShapes
theorem qbn {w : World} {g : Nat} {x0 x1 x2 x3 : Value} {T : TypeId} (h : w.heap[g]? = some (.cells #[x0, x1, x2, x3] T)) : w.cell? ⟨g, 0, none⟩ = some x0 ∧ w.cell? ⟨g, 1, none⟩ = some x1 ∧ w.cell? ⟨g, 2, none⟩ = some x2 ∧ w.cell? ⟨g, 3, none⟩ = some x3 :=
 ⟨cell_of_row _ _ _ _ _ _ h, cell_of_row _ _ _ _ _ _ h, cell_of_row _ _ _ _ _ _ h, cell_of_row _ _ _ _ _ _ h⟩
theorem qbz {w : World} {g : Nat} {x0 x1 x2 x3 x4 : Value} {T : TypeId} (h : w.heap[g]? = some (.cells #[x0, x1, x2, x3, x4] T)) : w.cell? ⟨g, 0, none⟩ = some x0 ∧ w.cell? ⟨g, 1, none⟩ = some x1 ∧ w.cell? ⟨g, 2, none⟩ = some x2 ∧ w.cell? ⟨g, 3, none⟩ = some x3 ∧ w.cell? ⟨g, 4, none⟩ = some x4 :=
 ⟨cell_of_row _ _ _ _ _ _ h, cell_of_row _ _ _ _ _ _ h, cell_of_row _ _ _ _ _ _ h, cell_of_row _ _ _ _ _ _ h, cell_of_row _ _ _ _ _ _ h⟩
def MvAt (w : World) (b off : Nat) (m : Mv) : Prop :=
 ∃ s o n c a p d, w.cell? ⟨b, off, none⟩ = some (.int .i64 (m.a : Nat)) ∧ w.cell? ⟨b, off + 1, none⟩ = some (.int .i64 (m.b : Nat)) ∧ w.cell? ⟨b, off + 2, none⟩ = some (.bool s) ∧ w.cell? ⟨b, off + 3, none⟩ = some (.slice o n c) ∧ w.cell? ⟨b, off + 4, none⟩ = some (.slice a p d) ∧ IsR w (.agg #[.bool s, .slice o n c, .slice a p d]) m.r
def MvsI (w : World) (v : Value) (l : List Mv) : Prop :=
 ∃ ao c, v = .slice ao l.length c ∧ l.length ≤ c ∧ c ≤ 9223372036854775807 ∧ (ao = none → c = 0) ∧
  ∀ b off s, ao = some ⟨b, off, s⟩ → (0 < l.length → b < w.heap.size ∧ s = none) ∧ ∀ (j : Nat) x, l[j]? = some x → MvAt w b (off + j * 5) x
def BlsV (w : World) (v : Value) (l : List Bool) : Prop :=
 ∃ ao c, v = .slice ao l.length c ∧ l.length ≤ c ∧ c ≤ 9223372036854775807 ∧ (ao = none → c = 0) ∧
  ∀ b off s, ao = some ⟨b, off, s⟩ → (0 < l.length → b < w.heap.size ∧ s = none) ∧ ∀ (j : Nat) x, l[j]? = some x → w.cell? ⟨b, off + j, none⟩ = some (.bool x)
theorem at_pos {α : Type} {l : List α} {j : Nat} {x : α} (h : l[j]? = some x) : 0 < l.length := by
 rcases Nat.eq_zero_or_pos l.length with k | k
 ·rw [List.length_eq_zero_iff] at k; rw [k] at h; cases h
 ·exact k
theorem IsR.mono {w w' : World} {v : Value} {q : Rat} {B : Nat} (h : IsR w v q) (hb : Below B w w') (hB : w.heap.size ≤ B) : IsR w' v q := h.below (hb.mono hB)
theorem MvsI.mono {w w' : World} {v : Value} {l : List Mv} {B : Nat} (h : MvsI w v l) (hb : Below B w w') (hB : w.heap.size ≤ B) : MvsI w' v l := by
 obtain ⟨ao, c, rfl, h1, h2, h3, h4⟩ := h
 refine ⟨ao, c, rfl, h1, h2, h3, ?_⟩
 intro b off s hs
 obtain ⟨k1, k3⟩ := h4 b off s hs
 refine ⟨fun h0 => ⟨Nat.lt_of_lt_of_le (k1 h0).1 hb.size, (k1 h0).2⟩, fun j x hj => ?_⟩
 have hlt := Nat.lt_of_lt_of_le (k1 (at_pos hj)).1 hB
 obtain ⟨s', o, n, c', a, p, d, q0, q1, q2, q3, q4, q5⟩ := k3 j x hj
 refine ⟨s', o, n, c', a, p, d, ?_, ?_, ?_, ?_, ?_, q5.mono hb hB⟩
 ·rw [hb.cell (p := ⟨b, _, none⟩) hlt]; exact q0
 ·rw [hb.cell (p := ⟨b, _, none⟩) hlt]; exact q1
 ·rw [hb.cell (p := ⟨b, _, none⟩) hlt]; exact q2
 ·rw [hb.cell (p := ⟨b, _, none⟩) hlt]; exact q3
 ·rw [hb.cell (p := ⟨b, _, none⟩) hlt]; exact q4
theorem MvsI.below {w w' : World} {v : Value} {l : List Mv} (h : MvsI w v l) (hb : Below w.heap.size w w') : MvsI w' v l := h.mono hb (Nat.le_refl _)
theorem BlsV.mono {w w' : World} {v : Value} {l : List Bool} {B : Nat} (h : BlsV w v l) (hb : Below B w w') (hB : w.heap.size ≤ B) : BlsV w' v l := by
 obtain ⟨ao, c, rfl, h1, h2, h3, h4⟩ := h
 refine ⟨ao, c, rfl, h1, h2, h3, ?_⟩
 intro b off s hs
 obtain ⟨k1, k3⟩ := h4 b off s hs
 refine ⟨fun h0 => ⟨Nat.lt_of_lt_of_le (k1 h0).1 hb.size, (k1 h0).2⟩, fun j x hj => ?_⟩
 have hlt := Nat.lt_of_lt_of_le (k1 (at_pos hj)).1 hB
 rw [hb.cell (p := ⟨b, _, none⟩) hlt]; exact k3 j x hj
theorem BlsV.below {w w' : World} {v : Value} {l : List Bool} (h : BlsV w v l) (hb : Below w.heap.size w w') : BlsV w' v l := h.mono hb (Nat.le_refl _)
theorem MvsI.at {w : World} {ao : Option Addr} {n c : Nat} {l : List Mv} (h : MvsI w (.slice ao n c) l) (hn : 0 < n) :
  ∃ b off, ao = some ⟨b, off, none⟩ ∧ b < w.heap.size ∧ n = l.length ∧ ∀ (j : Nat) x, l[j]? = some x → MvAt w b (off + j * 5) x := by
 obtain ⟨ao', c', e, h1, h2, h3, h4⟩ := h
 cases e
 cases hao : ao with
 | none => have := h3 hao; omega
 | some a =>
  obtain ⟨b, off, s⟩ := a
  obtain ⟨k1, k2⟩ := h4 b off s hao
  obtain ⟨k3, rfl⟩ := k1 hn
  exact ⟨b, off, rfl, k3, rfl, k2⟩
theorem BlsV.at {w : World} {ao : Option Addr} {n c : Nat} {l : List Bool} (h : BlsV w (.slice ao n c) l) (hn : 0 < n) :
  ∃ b off, ao = some ⟨b, off, none⟩ ∧ b < w.heap.size ∧ n = l.length ∧ ∀ (j : Nat) x, l[j]? = some x → w.cell? ⟨b, off + j, none⟩ = some (.bool x) := by
 obtain ⟨ao', c', e, h1, h2, h3, h4⟩ := h
 cases e
 cases hao : ao with
 | none => have := h3 hao; omega
 | some a =>
  obtain ⟨b, off, s⟩ := a
  obtain ⟨k1, k2⟩ := h4 b off s hao
  obtain ⟨k3, rfl⟩ := k1 hn
  exact ⟨b, off, rfl, k3, rfl, k2⟩
theorem BlsV.shape {w : World} {v : Value} {l : List Bool} (h : BlsV w v l) : ∃ ao c, v = .slice ao l.length c ∧ l.length ≤ c ∧ c ≤ 9223372036854775807 ∧ (ao = none → c = 0) := by
 obtain ⟨ao, c, e, h1, h2, h3, _⟩ := h
 exact ⟨ao, c, e, h1, h2, h3⟩
def ChI (w : World) (v : Value) (n s0 : Nat) (ms : List Mv) (dn : List Bool) : Prop :=
 ∃ mo mc bo bc, v = .agg #[.int .i64 n, .int .i64 s0, .slice mo ms.length mc, .slice bo dn.length bc] ∧ MvsI w (.slice mo ms.length mc) ms ∧ BlsV w (.slice bo dn.length bc) dn ∧ (ms.length ≤ mc ∧ mc ≤ 9223372036854775807) ∧ (dn.length ≤ bc ∧ bc ≤ 9223372036854775807)
theorem ChI.mono {w w' : World} {v : Value} {n s0 : Nat} {ms : List Mv} {dn : List Bool} {B : Nat} (h : ChI w v n s0 ms dn) (hb : Below B w w') (hB : w.heap.size ≤ B) : ChI w' v n s0 ms dn := by
 obtain ⟨mo, mc, bo, bc, e, h1, h2, h3⟩ := h
 exact ⟨mo, mc, bo, bc, e, h1.mono hb hB, h2.mono hb hB, h3⟩
theorem ChI.below {w w' : World} {v : Value} {n s0 : Nat} {ms : List Mv} {dn : List Bool} (h : ChI w v n s0 ms dn) (hb : Below w.heap.size w w') : ChI w' v n s0 ms dn := h.mono hb (Nat.le_refl _)
theorem ChI.of {w : World} {n s0 : Nat} {ms : List Mv} {dn : List Bool} {vm vb : Value} (h1 : MvsI w vm ms) (h2 : BlsV w vb dn) : ChI w (.agg #[.int .i64 n, .int .i64 s0, vm, vb]) n s0 ms dn := by
 obtain ⟨mo, mc, rfl, a1, a2, a3⟩ := id h1
 obtain ⟨bo, bc, rfl, b1, b2, b3⟩ := id h2
 exact ⟨mo, mc, bo, bc, rfl, h1, h2, ⟨a1, a2⟩, b1, b2⟩
def dnf (dn : List Bool) (i : Nat) : Bool := dn.getD i false
theorem dnf_at {dn : List Bool} {i : Nat} (h : i < dn.length) : dn[i]? = some (dnf dn i) := by
 unfold dnf
 rw [List.getD_eq_getElem?_getD, List.getElem?_eq_getElem h]; rfl
structure GCh (n s0 : Nat) (ms : List Mv) (dn : List Bool) : Prop where
 ok : ChOK n ms s0
 sm : SmM ms
 n10 : n ≤ 10
 dl : dn.length = n
 srt : ∀ j x y, ms[j]? = some x → ms[j + 1]? = some y → x.a < y.a ∨ x.a = y.a ∧ x.b < y.b
theorem GCh.n0 {n s0 : Nat} {ms : List Mv} {dn : List Bool} (h : GCh n s0 ms dn) : 0 < n := Nat.lt_of_le_of_lt (Nat.zero_le _) h.ok.st
structure MvR where
 a : Int
 b : Int
 s : Bool
 p : List Nat
 q : List Nat
instance : Inhabited MvR := ⟨⟨0, 0, false, [], []⟩⟩
def MvRAt (w : World) (b off : Nat) (m : MvR) : Prop :=
 ∃ o c a d, w.cell? ⟨b, off, none⟩ = some (.int .i64 m.a) ∧ w.cell? ⟨b, off + 1, none⟩ = some (.int .i64 m.b) ∧ w.cell? ⟨b, off + 2, none⟩ = some (.bool m.s) ∧ w.cell? ⟨b, off + 3, none⟩ = some (.slice o m.p.length c) ∧ w.cell? ⟨b, off + 4, none⟩ = some (.slice a m.q.length d) ∧ Num w (.slice o m.p.length c) m.p ∧ Num w (.slice a m.q.length d) m.q ∧ I64 m.a ∧ I64 m.b
def MvsR (w : World) (v : Value) (l : List MvR) : Prop :=
 ∃ ao c, v = .slice ao l.length c ∧ l.length ≤ c ∧ c ≤ 9223372036854775807 ∧ (ao = none → c = 0) ∧
  ∀ b off s, ao = some ⟨b, off, s⟩ → (0 < l.length → b < w.heap.size ∧ s = none) ∧ ∀ (j : Nat) x, l[j]? = some x → MvRAt w b (off + j * 5) x
theorem MvsR.mono {w w' : World} {v : Value} {l : List MvR} {B : Nat} (h : MvsR w v l) (hb : Below B w w') (hB : w.heap.size ≤ B) : MvsR w' v l := by
 obtain ⟨ao, c, rfl, h1, h2, h3, h4⟩ := h
 refine ⟨ao, c, rfl, h1, h2, h3, ?_⟩
 intro b off s hs
 obtain ⟨k1, k3⟩ := h4 b off s hs
 refine ⟨fun h0 => ⟨Nat.lt_of_lt_of_le (k1 h0).1 hb.size, (k1 h0).2⟩, fun j x hj => ?_⟩
 have hlt := Nat.lt_of_lt_of_le (k1 (at_pos hj)).1 hB
 obtain ⟨o, c', a, d, q0, q1, q2, q3, q4, q5, q6, q7⟩ := k3 j x hj
 refine ⟨o, c', a, d, ?_, ?_, ?_, ?_, ?_, q5.mono hb hB, q6.mono hb hB, q7⟩
 ·rw [hb.cell (p := ⟨b, _, none⟩) hlt]; exact q0
 ·rw [hb.cell (p := ⟨b, _, none⟩) hlt]; exact q1
 ·rw [hb.cell (p := ⟨b, _, none⟩) hlt]; exact q2
 ·rw [hb.cell (p := ⟨b, _, none⟩) hlt]; exact q3
 ·rw [hb.cell (p := ⟨b, _, none⟩) hlt]; exact q4
theorem MvsR.below {w w' : World} {v : Value} {l : List MvR} (h : MvsR w v l) (hb : Below w.heap.size w w') : MvsR w' v l := h.mono hb (Nat.le_refl _)
theorem MvsR.at {w : World} {ao : Option Addr} {n c : Nat} {l : List MvR} (h : MvsR w (.slice ao n c) l) (hn : 0 < n) :
  ∃ b off, ao = some ⟨b, off, none⟩ ∧ b < w.heap.size ∧ n = l.length ∧ ∀ (j : Nat) x, l[j]? = some x → MvRAt w b (off + j * 5) x := by
 obtain ⟨ao', c', e, h1, h2, h3, h4⟩ := h
 cases e
 cases hao : ao with
 | none => have := h3 hao; omega
 | some a =>
  obtain ⟨b, off, s⟩ := a
  obtain ⟨k1, k2⟩ := h4 b off s hao
  obtain ⟨k3, rfl⟩ := k1 hn
  exact ⟨b, off, rfl, k3, rfl, k2⟩
def ChR (w : World) (v : Value) (st s0 : Int) (ms : List MvR) (dn : List Bool) : Prop :=
 ∃ mo mc bo bc, v = .agg #[.int .i64 st, .int .i64 s0, .slice mo ms.length mc, .slice bo dn.length bc] ∧ MvsR w (.slice mo ms.length mc) ms ∧ BlsV w (.slice bo dn.length bc) dn ∧ (ms.length ≤ mc ∧ mc ≤ 9223372036854775807) ∧ (dn.length ≤ bc ∧ bc ≤ 9223372036854775807) ∧ I64 st ∧ I64 s0
theorem ChR.mono {w w' : World} {v : Value} {st s0 : Int} {ms : List MvR} {dn : List Bool} {B : Nat} (h : ChR w v st s0 ms dn) (hb : Below B w w') (hB : w.heap.size ≤ B) : ChR w' v st s0 ms dn := by
 obtain ⟨mo, mc, bo, bc, e, h1, h2, h3⟩ := h
 exact ⟨mo, mc, bo, bc, e, h1.mono hb hB, h2.mono hb hB, h3⟩
theorem ChR.below {w w' : World} {v : Value} {st s0 : Int} {ms : List MvR} {dn : List Bool} (h : ChR w v st s0 ms dn) (hb : Below w.heap.size w w') : ChR w' v st s0 ms dn := h.mono hb (Nat.le_refl _)
structure GoodM (st : Int) (m : MvR) : Prop where
 a0 : 0 ≤ m.a
 a1 : m.a < st
 b0 : 0 ≤ m.b
 b1 : m.b < st
 ab : m.a ≠ m.b
 v : Vld m.s m.p m.q
 r : 0 < rq m.s m.p m.q
def ltR (x y : MvR) : Prop := x.a < y.a ∨ x.a = y.a ∧ x.b < y.b
structure GoodR (st s0 : Int) (ms : List MvR) (dn : List Bool) : Prop where
 st1 : 1 ≤ st
 dl : (dn.length : Int) = st
 s00 : 0 ≤ s0
 s01 : s0 < st
 mv : ∀ m ∈ ms, GoodM st m
 srt : ∀ (j : Nat) x y, ms[j]? = some x → ms[j + 1]? = some y → ltR x y
structure SmallR (ms : List MvR) : Prop where
 len : ms.length ≤ 60
 one : ∀ m ∈ ms, m.p.length ≤ 1 ∧ m.q.length ≤ 1 ∧ (6 < ms.length → m.q.length = 1 → gd m.q 0 < 16)
def cvM (m : MvR) : Mv := ⟨m.a.toNat, m.b.toNat, rq m.s m.p m.q⟩
structure Sm1 (ms : List Mv) : Prop where
 len : ms.length ≤ 60
 pos : ∀ m ∈ ms, 0 < m.r
 big : ∀ m ∈ ms, m.r ≤ ((p2 32 : Nat) : Rat)
 den : qdd ms ≤ p2 240
theorem p2_le_cast {a b : Nat} (h : a ≤ b) : ((a : Nat) : Rat) ≤ ((b : Nat) : Rat) := by exact_mod_cast h
theorem Sm1.smM {ms : List Mv} (h : Sm1 ms) : SmM ms := ⟨h.len, h.pos, fun m hm => by
 have := h.big m hm
 have k := p2_le_cast (qcv (a := 32) (b := 33) (by omega))
 grind, h.den⟩
theorem dbl_den (r : Rat) : (r + r).den ∣ r.den := by
 have e : r + r = mkRat (2 * r.num) r.den := by
  have h := num_div r
  have hd : (r.den : Rat) ≠ 0 := by
   intro e
   exact r.den_nz (by exact_mod_cast e)
  rw [Rat.mkRat_eq_div]
  have e2 : ((2 * r.num : Int) : Rat) = 2 * (r.num : Rat) := by push_cast; rfl
  rw [e2]
  have : r = (r.num : Rat) / (r.den : Rat) := h.symm
  grind
 rw [e, Rat.den_mkRat]
 split
 ·exact Nat.one_dvd _
 ·exact Nat.div_dvd_of_dvd (Nat.gcd_dvd_left ..)
theorem prodD_twice : ∀ ms : List Mv, qdd (qcd ms) ≤ qdd ms
 | [] => Nat.le_refl _
 | m :: l => by
  have ih := prodD_twice l
  unfold qcd at ih ⊢
  simp only [List.map_cons, qdd]
  exact Nat.mul_le_mul (Nat.le_of_dvd (Nat.pos_of_ne_zero m.r.den_nz) (dbl_den m.r)) ih
theorem Sm1.twice {ms : List Mv} (h : Sm1 ms) : SmM (qcd ms) := by
 refine ⟨by unfold qcd; rw [List.length_map]; exact h.len, ?_, ?_, Nat.le_trans (prodD_twice ms) h.den⟩
 ·intro m hm
  obtain ⟨x, hx, rfl⟩ := List.mem_map.1 hm
  have := h.pos x hx
  show 0 < x.r + x.r
  grind
 ·intro m hm
  obtain ⟨x, hx, rfl⟩ := List.mem_map.1 hm
  have := h.big x hx
  have e : ((p2 33 : Nat) : Rat) = ((p2 32 : Nat) : Rat) + ((p2 32 : Nat) : Rat) := by
   have : p2 33 = p2 32 + p2 32 := by unfold p2; omega
   rw [this]; push_cast; rfl
  show x.r + x.r ≤ _
  rw [e]; grind
theorem gch_twice {n s0 : Nat} {ms : List Mv} {dn : List Bool} (h : GCh n s0 ms dn) (h1 : Sm1 ms) : GCh n s0 (qcd ms) dn := by
 refine ⟨⟨h.ok.st, ?_⟩, h1.twice, h.n10, h.dl, ?_⟩
 ·intro m hm
  obtain ⟨x, hx, rfl⟩ := List.mem_map.1 hm
  obtain ⟨k1, k2, k3, k4⟩ := h.ok.mv x hx
  exact ⟨k1, k2, k3, by show 0 < x.r + x.r; grind⟩
 ·intro j x y hx hy
  unfold qcd at hx hy
  rw [List.getElem?_map] at hx hy
  obtain ⟨x', hx', rfl⟩ := Option.map_eq_some_iff.1 hx
  obtain ⟨y', hy', rfl⟩ := Option.map_eq_some_iff.1 hy
  exact h.srt j x' y' hx' hy'
/-! what few and well formed gives -/
theorem val_one {l : List Nat} (h : l.length = 1) : val l = gd l 0 := by
 match l, h with
 | [x], _ => simp [val, gd]
theorem val_le1 {l : List Nat} (hu : U32 l) (h : l.length ≤ 1) : val l < 4294967296 := by
 match l, h with
 | [], _ => simp [val]
 | [x], _ => have := hu 0; simp [val, gd] at this ⊢; omega
theorem rq_small {s : Bool} {a b : List Nat} (ha : U32 a) (hb : U32 b) (hv : Vld s a b) (h0 : 0 < rq s a b) (h1 : a.length ≤ 1) (h2 : b.length ≤ 1) :
  rq s a b ≤ ((p2 32 : Nat) : Rat) ∧ (rq s a b).den < 4294967296 ∧ b.length = 1 ∧ (rq s a b).den = gd b 0 := by
 obtain ⟨e1, e2, e3⟩ := qde ha hb hv
 have hne : rq s a b ≠ 0 := by intro e; rw [e] at h0; exact absurd h0 (by decide)
 rw [dn_pos hne] at e3
 generalize hq : rq s a b = q at *
 have hdv : q.den = val b := by rw [e3, qao]
 have hl1 : b.length = 1 := by
  rcases Nat.lt_or_ge b.length 1 with k | k
  ·have : b = [] := List.eq_nil_of_length_eq_zero (by omega)
   rw [this] at hdv
   exact absurd hdv q.den_nz
  ·omega
 have hn : nn q = val a := by rw [e2, qao]
 have k1 := val_le1 ha h1
 have k2 := val_le1 hb h2
 refine ⟨?_, by omega, hl1, by rw [hdv, val_one hl1]⟩
 have hp : q.num ≤ ((p2 32 : Nat) : Int) := by
  unfold nn at hn
  have : p2 32 = 4294967296 := by unfold p2; rfl
  omega
 have hnum : (q.num : Rat) ≤ ((p2 32 : Nat) : Rat) := by exact_mod_cast hp
 have hd1 : (1 : Rat) ≤ (q.den : Rat) := by
  have : 1 ≤ q.den := Nat.pos_of_ne_zero q.den_nz
  exact_mod_cast this
 have hm : q * (q.den : Rat) = (q.num : Rat) := by
  have h := num_div q
  have hd : (q.den : Rat) ≠ 0 := by grind
  have : q = (q.num : Rat) / (q.den : Rat) := h.symm
  grind
 have := Rat.mul_nonneg (Rat.le_of_lt h0) (show (0 : Rat) ≤ (q.den : Rat) - 1 by grind)
 grind
theorem prodD_16 : ∀ (ms : List Mv), (∀ m ∈ ms, m.r.den < 16) → qdd ms ≤ p2 (4 * ms.length)
 | [], _ => by decide
 | m :: l, h => by
  have h1 := h m (List.mem_cons_self ..)
  have h2 := prodD_16 l (fun x hx => h x (List.mem_cons_of_mem _ hx))
  simp only [qdd, List.length_cons]
  rw [Nat.mul_add, Nat.add_comm, ← p2_add]
  exact Nat.mul_le_mul (by unfold p2; omega) h2
theorem prodD_32 : ∀ (ms : List Mv), (∀ m ∈ ms, m.r.den < 4294967296) → qdd ms ≤ p2 (32 * ms.length)
 | [], _ => by decide
 | m :: l, h => by
  have h1 := h m (List.mem_cons_self ..)
  have h2 := prodD_32 l (fun x hx => h x (List.mem_cons_of_mem _ hx))
  simp only [qdd, List.length_cons]
  rw [Nat.mul_add, Nat.add_comm, ← p2_add]
  exact Nat.mul_le_mul (by unfold p2; omega) h2
theorem MvsR.get {w : World} {v : Value} {l : List MvR} (h : MvsR w v l) {m : MvR} (hm : m ∈ l) : ∃ b off, MvRAt w b off m := by
 obtain ⟨j, hj⟩ := List.getElem?_of_mem hm
 obtain ⟨ao, c, rfl, h1, h2, h3, h4⟩ := h
 have hp := at_pos hj
 cases hao : ao with
 | none => have := h3 hao; omega
 | some a =>
  obtain ⟨b, off, s⟩ := a
  exact ⟨b, _, (h4 b off s hao).2 j m hj⟩
theorem MvRAt.u {w : World} {b off : Nat} {m : MvR} (h : MvRAt w b off m) : U32 m.p ∧ U32 m.q := by
 obtain ⟨o, c, a, d, _, _, _, _, _, q5, q6, _⟩ := h
 exact ⟨by obtain ⟨_, _, _, _, _, _, _, h⟩ := q5; exact h, by obtain ⟨_, _, _, _, _, _, _, h⟩ := q6; exact h⟩
theorem small_sm1 {w : World} {v : Value} {st s0 : Int} {ms : List MvR} {dn : List Bool} (hv : MvsR w v ms) (hg : GoodR st s0 ms dn) (hs : SmallR ms) : Sm1 (ms.map cvM) := by
 have key : ∀ m ∈ ms, rq m.s m.p m.q ≤ ((p2 32 : Nat) : Rat) ∧ (rq m.s m.p m.q).den < 4294967296 ∧ m.q.length = 1 ∧ (rq m.s m.p m.q).den = gd m.q 0 := by
  intro m hm
  obtain ⟨b, off, hat⟩ := hv.get hm
  obtain ⟨u1, u2⟩ := hat.u
  have g := hg.mv m hm
  have o := hs.one m hm
  exact rq_small u1 u2 g.v g.r o.1 o.2.1
 refine ⟨by rw [List.length_map]; exact hs.len, ?_, ?_, ?_⟩
 ·intro x hx
  obtain ⟨m, hm, rfl⟩ := List.mem_map.1 hx
  exact (hg.mv m hm).r
 ·intro x hx
  obtain ⟨m, hm, rfl⟩ := List.mem_map.1 hx
  exact (key m hm).1
 ·by_cases h6 : 6 < ms.length
  ·refine Nat.le_trans (prodD_16 _ ?_) (qcv (by rw [List.length_map]; have := hs.len; omega))
   intro x hx
   obtain ⟨m, hm, rfl⟩ := List.mem_map.1 hx
   obtain ⟨_, _, k3, k4⟩ := key m hm
   have := (hs.one m hm).2.2 h6 k3
   show (rq m.s m.p m.q).den < 16
   omega
  ·refine Nat.le_trans (prodD_32 _ ?_) (qcv (by rw [List.length_map]; omega))
   intro x hx
   obtain ⟨m, hm, rfl⟩ := List.mem_map.1 hx
   exact (key m hm).2.1
theorem good_gch {w : World} {v : Value} {st s0 : Int} {ms : List MvR} {dn : List Bool} (hv : MvsR w v ms) (hg : GoodR st s0 ms dn) (hs : SmallR ms) (h10 : st ≤ 10) : GCh st.toNat s0.toNat (ms.map cvM) dn := by
 have h1 := hg.st1; have h2 := hg.s00; have h3 := hg.s01; have h4 := hg.dl
 refine ⟨⟨by omega, ?_⟩, (small_sm1 hv hg hs).smM, by omega, by omega, ?_⟩
 ·intro x hx
  obtain ⟨m, hm, rfl⟩ := List.mem_map.1 hx
  have g := hg.mv m hm
  have g0 := g.a0; have g1 := g.a1; have g2 := g.b0; have g3 := g.b1; have g4 := g.ab
  refine ⟨?_, ?_, ?_, g.r⟩
  ·show m.a.toNat < st.toNat; omega
  ·show m.b.toNat < st.toNat; omega
  ·show m.a.toNat ≠ m.b.toNat; omega
 ·intro j x y hx hy
  rw [List.getElem?_map] at hx hy
  obtain ⟨x', hx', rfl⟩ := Option.map_eq_some_iff.1 hx
  obtain ⟨y', hy', rfl⟩ := Option.map_eq_some_iff.1 hy
  have gx := hg.mv x' (List.mem_of_getElem? hx')
  have gy := hg.mv y' (List.mem_of_getElem? hy')
  have l := hg.srt j x' y' hx' hy'
  have a1 := gx.a0; have a2 := gx.b0; have a3 := gy.a0; have a4 := gy.b0
  unfold ltR at l
  show x'.a.toNat < y'.a.toNat ∨ x'.a.toNat = y'.a.toNat ∧ x'.b.toNat < y'.b.toNat
  omega
theorem good_mvs {w : World} {v : Value} {st s0 : Int} {ms : List MvR} {dn : List Bool} (hv : MvsR w v ms) (hg : GoodR st s0 ms dn) : MvsI w v (ms.map cvM) := by
 obtain ⟨ao, c, rfl, h1, h2, h3, h4⟩ := hv
 refine ⟨ao, c, by rw [List.length_map], by rw [List.length_map]; exact h1, h2, h3, ?_⟩
 intro b off s hs
 obtain ⟨k1, k2⟩ := h4 b off s hs
 refine ⟨by rw [List.length_map]; exact k1, fun j x hj => ?_⟩
 rw [List.getElem?_map] at hj
 obtain ⟨m, hm, rfl⟩ := Option.map_eq_some_iff.1 hj
 have g := hg.mv m (List.mem_of_getElem? hm)
 have hat := k2 j m hm
 obtain ⟨u1, u2⟩ := hat.u
 obtain ⟨o, c', a, d, q0, q1, q2, q3, q4, q5, q6, q7⟩ := hat
 obtain ⟨e1, e2, e3⟩ := qde u1 u2 g.v
 refine ⟨m.s, o, m.p.length, c', a, m.q.length, d, ?_, ?_, q2, q3, q4, ?_⟩
 ·rw [q0]
  show some (Value.int .i64 m.a) = some (.int .i64 ((m.a.toNat : Nat) : Int))
  rw [Int.toNat_of_nonneg g.a0]
 ·rw [q1]
  show some (Value.int .i64 m.b) = some (.int .i64 ((m.b.toNat : Nat) : Int))
  rw [Int.toNat_of_nonneg g.b0]
 ·show RatV w _ (ng (rq m.s m.p m.q)) (wd (nn (rq m.s m.p m.q))) (wd (Go.Proofs.YtblekfkmianmeaaGreatDoor.dn (rq m.s m.p m.q)))
  rw [← e1, ← e2, ← e3]
  exact ⟨_, _, rfl, q5, q6⟩
theorem good_chi {w : World} {v : Value} {st s0 : Int} {ms : List MvR} {dn : List Bool} (h : ChR w v st s0 ms dn) (hg : GoodR st s0 ms dn) : ChI w v st.toNat s0.toNat (ms.map cvM) dn := by
 obtain ⟨mo, mc, bo, bc, rfl, h1, h2, h3, h4, h5⟩ := h
 have e := hg.st1; have e2 := hg.s00
 have := ChI.of (n := st.toNat) (s0 := s0.toNat) (good_mvs h1 hg) h2
 rwa [Int.toNat_of_nonneg (by omega), Int.toNat_of_nonneg e2] at this
theorem qac {w a b : World} {B : Nat} (h : Below B w a) (hB : B ≤ w.heap.size) (k : Below a.heap.size a b) : Below B w b := h.trans (k.mono (Nat.le_trans hB h.size))
theorem qaq {w w' : World} {B : Nat} {e : TypeId} {size n : Nat} {v : Value} {xs : List Value} (h : qbm w B e size v n xs) (hb : Below w.heap.size w w') : qbm w' B e size v n xs := h.kept (below_gr hb) (fun _ _ e => by cases e)
theorem qak {w w' : World} {g i : Nat} {x : Value} (h : w.cell? ⟨g, i, none⟩ = some x) (hb : Below w.heap.size w w') : w'.cell? ⟨g, i, none⟩ = some x := by
 rw [hb.cell (p := ⟨g, i, none⟩) (World.block_lt_of_cell? w _ h)]; exact h
theorem Mat.get {w : World} {B m g0 c0 : Nat} {V : Nat → Value} {n : Nat → Nat} {M : Nat → Nat → Rat} (h : Mat w B (.slice (some ⟨g0, 0, none⟩) m c0) m V n M) {i : Nat} (hi : i < m) (hn : 0 < n i) :
  ∃ g c, V i = .slice (some ⟨g, 0, none⟩) (n i) c ∧ n i ≤ c ∧ c ≤ 9223372036854775807 ∧ B ≤ g ∧ g ≠ g0 ∧ w.cell? ⟨g0, i, none⟩ = some (.slice (some ⟨g, 0, none⟩) (n i) c) ∧ FrL w B (.slice (some ⟨g, 0, none⟩) (n i) c) (n i) (M i) := by
 have hr := h.row i hi
 obtain ⟨g, c, e, h1, h2, h3, h4⟩ := hr.addr hn
 obtain ⟨g', e', _, _, _, _, hc⟩ := qbi h.out.1 rfl (by omega)
 cases e'
 have hci := hc i _ (map_at hi)
 rw [e] at hci hr
 exact ⟨g, c, e, h1, h2, h3, fun k => h.ne0 i hi g0 rfl (by rw [e, k]; rfl), hci, hr⟩
theorem Mat.at {w : World} {B m g0 c0 : Nat} {V : Nat → Value} {n : Nat → Nat} {M : Nat → Nat → Rat} (h : Mat w B (.slice (some ⟨g0, 0, none⟩) m c0) m V n M) {i : Nat} (hi : i < m) {g c q : Nat} (e : V i = .slice (some ⟨g, 0, none⟩) q c) :
  w.cell? ⟨g0, i, none⟩ = some (.slice (some ⟨g, 0, none⟩) q c) ∧ FrL w B (.slice (some ⟨g, 0, none⟩) q c) (n i) (M i) := by
 have hr := h.row i hi
 obtain ⟨g', e', _, _, _, _, hc⟩ := qbi h.out.1 rfl (by omega)
 cases e'
 have hci := hc i _ (map_at hi)
 rw [e] at hci hr
 exact ⟨hci, hr⟩
theorem Mat.outCap {w : World} {B m g0 c0 : Nat} {V : Nat → Value} {n : Nat → Nat} {M : Nat → Nat → Rat} (h : Mat w B (.slice (some ⟨g0, 0, none⟩) m c0) m V n M) : ∃ cs, w.heap[g0]? = some (.cells cs 28) ∧ m ≤ cs.size := by
 rcases h.out.1.2 with ⟨h0, _⟩ | ⟨g', cap, cur, hv, hb, hg, hnc, hcm, hcs, ht⟩
 ·cases h0
 ·simp only [Value.slice.injEq, Option.some.injEq, Addr.mk.injEq, and_true, true_and] at hv
  obtain ⟨rfl, rfl⟩ := hv
  exact ⟨cur, hg, by rw [hcs]; omega⟩
def sgm (k r i : Nat) : Nat := if i = k then r else if i = r then k else i
theorem sgm_lt {k r i m : Nat} (hk : k < m) (hr : r < m) (hi : i < m) : sgm k r i < m := by
 unfold sgm; split
 ·exact hr
 ·split
  ·exact hk
  ·exact hi
theorem sgm_inj {k r i j : Nat} (h : i ≠ j) : sgm k r i ≠ sgm k r j := by
 unfold sgm
 by_cases a : i = k
 ·rw [if_pos a]
  by_cases b : j = k
  ·omega
  ·rw [if_neg b]
   by_cases d : j = r
   ·rw [if_pos d]; omega
   ·rw [if_neg d]; omega
 ·rw [if_neg a]
  by_cases b : j = k
  ·rw [if_pos b]
   by_cases d : i = r
   ·rw [if_pos d]; omega
   ·rw [if_neg d]; omega
  ·rw [if_neg b]
   by_cases c : i = r
   ·rw [if_pos c]
    by_cases d : j = r
    ·omega
    ·rw [if_neg d]; omega
   ·rw [if_neg c]
    by_cases d : j = r
    ·rw [if_pos d]; omega
    ·rw [if_neg d]; exact h
theorem Mat.swap {w w1 w2 : World} {B m g0 c0 k r q : Nat} {V : Nat → Value} {M : Nat → Nat → Rat} (h : Mat w B (.slice (some ⟨g0, 0, none⟩) m c0) m V (fun _ => q) M) (hk : k < m) (hr : r < m) {o1 o2 : Option Addr} {a1 a2 b1 b2 : Nat}
  (hVr : V r = .slice o1 a1 b1) (hVk : V k = .slice o2 a2 b2) (hw1 : w1 = putL w g0 k [.slice o1 a1 b1]) (hw2 : w2 = putL w1 g0 r [.slice o2 a2 b2]) :
  Mat w2 B (.slice (some ⟨g0, 0, none⟩) m c0) m (fun i => V (sgm k r i)) (fun _ => q) (fswap M k r) ∧ Stp w w2 (some g0) := by
 obtain ⟨k1, s1⟩ := Mat.outPut h.out hk hw1
 obtain ⟨k2, s2⟩ := Mat.outPut k1 hr hw2
 have eV : updV (updV V k (.slice o1 a1 b1)) r (.slice o2 a2 b2) = fun i => V (sgm k r i) := by
  funext i
  unfold updV sgm
  by_cases a : i = r
  ·rw [if_pos a]
   by_cases b : i = k
   ·rw [if_pos b, ← hVk, ← b, a]
   ·rw [if_neg b, if_pos a, ← hVk]
  ·rw [if_neg a]
   by_cases b : i = k
   ·rw [if_pos b, if_pos b, ← hVr]
   ·rw [if_neg b, if_neg b, if_neg a]
 rw [eV] at k2
 have hs : Stp w w2 (some g0) := s1.trans s2 (fun g e => .inl e)
 refine ⟨⟨k2, fun i hi => ?_, fun i hi => h.ne0 _ (sgm_lt hk hr hi), fun i j hi hj hne => h.inj _ _ (sgm_lt hk hr hi) (sgm_lt hk hr hj) (sgm_inj hne)⟩, hs⟩
 have e : fswap M k r i = M (sgm k r i) := by
  unfold fswap sgm
  split
  ·rfl
  ·split <;> rfl
 rw [e]
 exact (h.row _ (sgm_lt hk hr hi)).stp hs (fun g hg e => by cases e; exact h.ne0 _ (sgm_lt hk hr hi) g0 rfl hg)
theorem nints_snoc (k : Nat) : qco (qcs (List.range (k + 1))) = qco (qcs (List.range k)) ++ [.int .i64 (k : Nat)] := by
 rw [List.range_succ]
 simp [qco, qcs]
theorem noU_ivals (l : List Int) : noU (qco l) := by
 intro u hu n
 obtain ⟨x, _, rfl⟩ := List.mem_map.1 hu
 exact fun e => by cases e
theorem noUi {x : Int} : noU [.int .i64 x] := noU_ivals [x]
def RetRed (w : World) (B g0 c0 m : Nat) (M : Nat → Nat → Rat) (e : Ending) (w' : World) : Prop :=
 ∃ pv V N B2, e = .returned (.tuple #[.slice (some ⟨g0, 0, none⟩) m c0, pv]) ∧ Below B w w' ∧ Mat w' B (.slice (some ⟨g0, 0, none⟩) m c0) m V (fun _ => m + 1) N ∧ UnitC N m m ∧ (∀ z, KerM N m (m + 1) z ↔ KerM M m (m + 1) z) ∧
  SzM N m (m + 1) (bk m) ∧ qbm w' B2 3 1 pv m (qco (qcs (List.range m)))
theorem Tryz.intTyL : qcl Tryz.prog 70 3 (.int .i64 0) 1 8 := .mk' Tryz.underlying70 (by kernel_rfl)
theorem reduce_any (g0 c0 m B : Nat) (V : Nat → Value) (M : Nat → Nat → Rat) (w : World) (hM : Mat w B (.slice (some ⟨g0, 0, none⟩) m c0) m V (fun _ => m + 1) M) (hm0 : 0 < m) (hm : m ≤ 10) (hc0 : m ≤ c0 ∧ c0 ≤ 9223372036854775807) (hBw : B ≤ w.heap.size)
  (hsz : SzM M m (m + 1) (bk 0)) (hns : NonSing M m) :
  Calls Tryz.prog 56 #[.slice (some ⟨g0, 0, none⟩) m c0] w (RetRed w B g0 c0 m M) := by
 have hg0 := hM.lt (g := g0) rfl
 have LT := qHd (fun i (hi : i < m) g (hg : (V i).ownBlock = some g) => (hM.row i hi).lt hg)
 have MT := qHd hM; have SZ := qHd hsz; have NS := qHd hns
 obtain ⟨S0, hS0⟩ : ∃ s, s = w.heap.size := ⟨_, rfl⟩
 clear hM hsz hns
 go_enter Tryz.func56, Tryz.ntmps56
 go_wp2_with (with_reducible first | refine qah ?_ | refine qae ?_)
 refine qal.mk ?_
 go_loopw [5, 4] (fun i' pv wx => ∃ (k : Nat) (V : Nat → Value) (N : Nat → Nat → Rat), k ≤ m ∧ i' = .int .i64 k ∧ Hid (Mat wx B (.slice (some ⟨g0, 0, none⟩) m c0) m V (fun _ => m + 1) N) ∧ Hid (qbm wx w.heap.size 3 1 pv k (qco (qcs (List.range k)))) ∧ Hid (Below B w wx) ∧ Hid (UnitC N m k) ∧ Hid (∀ z, KerM N m (m + 1) z ↔ KerM M m (m + 1) z) ∧ Hid (SzM N m (m + 1) (bk k)) ∧ Hid (∀ i, i < m → ∀ g, (V i).ownBlock = some g → B ≤ g ∧ g < w.heap.size)) (fun i' _ _ => m - (intOf i').toNat)
 case atStart => exact ⟨0, V, M, Nat.zero_le _, rfl, MT, qHd (qbm.nil w _ _ _), qHd (Below.refl _ _), qHd (fun i _ j hj => absurd hj (by omega)), qHd (fun z => Iff.rfl), SZ, LT⟩
 case round =>
  obtain ⟨k, V, N, hk, rfl, MT, PV, HB, UC, KR, SZ, LT⟩ := hrel
  obtain ⟨wo, rfl⟩ : ∃ wo : World, wo = wr := ⟨_, rfl⟩
  obtain ⟨ga, ca, _, hca, hca2, _, _, cA, _⟩ := MT.out.get (i := 0) hm0 (by omega)
  obtain ⟨po, pc, rfl, hpc, hpc2, _⟩ := qbd PV.out.1
  have hkz : (k : Int) < ((m : Int) + 1) := by omega
  by_cases hlt : k < m
  ·have hltz : (k : Int) < (m : Int) := by omega
   obtain ⟨pp, hp1, hp2, hp3⟩ := pivot_some (NS.out.of KR.out) UC.out hlt
   have HP := qHd hp3; clear hp3
   go_wp2_with (with_reducible first | refine qah ?_ | refine qae ?_)
   clear cA
   refine qal.mk ?_
   go_loopw [7] (fun i' wx => ∃ r : Nat, k ≤ r ∧ r ≤ pp ∧ i' = .int .i64 r ∧ Hid (Mat wx B (.slice (some ⟨g0, 0, none⟩) m c0) m V (fun _ => m + 1) N) ∧ Hid (qbm wx w.heap.size 3 1 (.slice po k pc) k (qco (qcs (List.range k)))) ∧ Hid (Below B w wx)) (fun i' _ => pp - (intOf i').toNat)
   case atStart => exact ⟨k, Nat.le_refl _, hp1, rfl, MT, PV, HB⟩
   case round =>
    obtain ⟨r, hr1, hr2, rfl, MT, PV, HB⟩ := hrel
    obtain ⟨wp, rfl⟩ : ∃ wp : World, wp = wr := ⟨_, rfl⟩
    have hrm : r < m := by omega
    have hrz : (r : Int) < (m : Int) := by omega
    obtain ⟨gr, cgr, eVr, hc1, hc2, hBr, hner, cR, hFr⟩ := MT.out.get (i := r) hrm (by omega)
    obtain ⟨sx, ox, nx, cx, ax, mx, dx, x0, x1, x2, hIx⟩ := hFr.at (j := k) (by omega)
    have LX := qHd (show rl (N r k) ≤ 100000 from Nat.le_trans (SZ.out.rl (bk_len (by omega)) hrm (by omega)) (by decide))
    have IX := qHd hIx; have CR := qHd cR; have EVR := qHd eVr
    obtain ⟨xr, hxr⟩ : ∃ x, x = N r k := ⟨_, rfl⟩
    rw [← hxr] at LX IX
    have XR := qHd hxr
    clear hIx hFr hxr eVr
    have HK := qHd (sign_any _ xr wp (IX.out.is LX.out))
    go_wp2_with (with_reducible refine qag ?_)
    clear x0 x1 x2 cR
    refine qal.mk ?_
    (with_reducible refine HK.out.mono ?_); rintro e w1 ⟨rfl, hb1⟩
    have MT := qHd (MT.out.below hb1)
    have PV := qHd (qaq PV.out hb1)
    have HB := qHd (qac HB.out hBw hb1)
    have CR := qHd (qak CR.out hb1)
    clear hb1 HK IX
    by_cases hz : xr = 0
    ·have hsg : sg xr = 0 := by rw [hz]; exact sgz0
     rw [hsg]
     have hrp : r ≠ pp := fun e => HP.out (by rw [← e, ← XR.out]; exact hz)
     clear hsg hz
     go_wp2_with fail
     go_roundw
     case rel => exact ⟨r + 1, by omega, by omega, by go_num, MT, PV, HB⟩
     case measure => simp [intOf]; omega
    ·obtain ⟨hsg, hsg2⟩ := sgnz hz
     have NZ := qHd (show N r k ≠ 0 by rw [← XR.out]; exact hz)
     obtain ⟨sgx, hsgx⟩ : ∃ s, s = sg xr := ⟨_, rfl⟩
     rw [← hsgx] at hsg hsg2 ⊢
     clear hsgx hz
     have hrne : ((r : Int) == (m : Int)) = false := by rw [beq_eq_false_iff_ne]; omega
     obtain ⟨gk, cgk, eVk, hc3, hc4, hBk, hnek, cK, _⟩ := MT.out.get (i := k) hlt (by omega)
     have CK := qHd cK; have EVK := qHd eVk
     clear cK eVk
     go_wp2_with (with_reducible first | refine qag ?_ | refine qah ?_ | refine qbb ?_ | refine qbc ?_ | refine qae ?_)
     refine qal.mk ?_
     refine qaj (A := ?aaSW) (w := w1) 12 [2, 3] (by kernel_rfl) (Fl [KEq (.slice (some ⟨g0, 0, none⟩) m c0), KEq (.int .i64 (k : Nat)), KEq (.slice (some ⟨g0, 0, none⟩) m c0), KEq (.int .i64 (r : Nat)), KEq (.slice (some ⟨g0, 0, none⟩) m c0), KEq (.int .i64 (r : Nat)), KEq (.pointer (some ⟨g0, r, none⟩)), KEq (.slice (some ⟨gr, 0, none⟩) (m + 1) cgr), KEq (.slice (some ⟨g0, 0, none⟩) m c0), KEq (.int .i64 (k : Nat)), KEq (.pointer (some ⟨g0, k, none⟩)), KEq (.slice (some ⟨gk, 0, none⟩) (m + 1) cgk)]) (fun i => false) (by kernel_rfl) ?hqSW (qdk (qad (kEq _) (qad (kEq _) (qad (kEq _) (qad (kEq _) (qad (kEq _) (qad (kEq _) (qad (kEq _) (qad (kEq _) (qad (kEq _) (qad (kEq _) (qad (kEq _) (qad (kEq _) qdj))))))))))))) ?haSW ?stSW ?tlSW
     case hqSW =>
      intro c a d v w h
      first | (simp only [Exit.then] at h ⊢; exact h) | (simp only [Exit.inBlock, Exit.then] at h ⊢; exact h) | exact h
     case haSW =>
      intro vals
      simp only [qat, qby, if_true, Act.put, List.setIfInBounds_toArray, List.set_cons_zero, List.set_cons_succ, List.getElem?_toArray, List.getElem?_cons_zero, List.getElem?_cons_succ, Option.bind_some]
      exact rfl
     case stSW =>
      simp only [List.take_succ_cons, List.take_zero]
      refine qaa rfl rfl ?_ (qaa rfl rfl ?_ (qci rfl ?_ (qci rfl ?_ (qaa rfl rfl ?_ (qaa rfl rfl ?_ (qaa rfl rfl ?_ (qaa rfl rfl ?_ (qaa rfl rfl ?_ (qaa rfl rfl ?_ (qaa rfl rfl ?_ (qaa rfl rfl ?_ (qau))))))))))))
      ·intro vals w1 hb hd
       refine qSv (.slice (some ⟨g0, 0, none⟩) m c0) (by go_simp) (qLk rfl rfl)
      ·intro vals w1 hb hd
       refine qSv (.int .i64 (k : Nat)) (by go_simp) (qLk rfl rfl)
      ·intro vals w1 hb hd
       refine qbv (v := .slice (some ⟨g0, 0, none⟩) m c0) (fun w => by go_simp) (qLk rfl rfl)
      ·intro vals w1 hb hd
       refine qbv (v := .int .i64 (r : Nat)) (fun w => by go_simp) (qLk rfl rfl)
      ·intro vals w1 hb hd
       refine qSv (.slice (some ⟨g0, 0, none⟩) m c0) (by go_simp) (qLk rfl rfl)
      ·intro vals w1 hb hd
       refine qSv (.int .i64 (r : Nat)) (by go_simp) (qLk rfl rfl)
      ·intro vals w1 hb hd
       rw [show vals 4 = .slice (some ⟨g0, 0, none⟩) m c0 from hd 4 (by kernel_rfl)]
       rw [show vals 5 = .int .i64 (r : Nat) from hd 5 (by kernel_rfl)]
       refine qSv (.pointer (some ⟨g0, r, none⟩)) (by go_simp) (qLk rfl rfl)
      ·intro vals w1 hb hd
       have e0 := qak CR.out hb
       rw [show vals 6 = .pointer (some ⟨g0, r, none⟩) from hd 6 (by kernel_rfl)]
       refine qSv (.slice (some ⟨gr, 0, none⟩) (m + 1) cgr) (by go_simp) (qLk rfl rfl)
      ·intro vals w1 hb hd
       refine qSv (.slice (some ⟨g0, 0, none⟩) m c0) (by go_simp) (qLk rfl rfl)
      ·intro vals w1 hb hd
       refine qSv (.int .i64 (k : Nat)) (by go_simp) (qLk rfl rfl)
      ·intro vals w1 hb hd
       rw [show vals 8 = .slice (some ⟨g0, 0, none⟩) m c0 from hd 8 (by kernel_rfl)]
       rw [show vals 9 = .int .i64 (k : Nat) from hd 9 (by kernel_rfl)]
       refine qSv (.pointer (some ⟨g0, k, none⟩)) (by go_simp) (qLk rfl rfl)
      ·intro vals w1 hb hd
       have e0 := qak CK.out hb
       rw [show vals 10 = .pointer (some ⟨g0, k, none⟩) from hd 10 (by kernel_rfl)]
       refine qSv (.slice (some ⟨gk, 0, none⟩) (m + 1) cgk) (by go_simp) (qLk rfl rfl)
     case tlSW =>
      intro vals w2 hb2 hf hdis
      simp only [List.drop_succ_cons, List.drop_zero]
      have z0 : vals 0 = _ := hf 0 (by decide); have z1 : vals 1 = _ := hf 1 (by decide); have z2 : vals 2 = _ := hf 2 (by decide); have z3 : vals 3 = _ := hf 3 (by decide); have z7 : vals 7 = _ := hf 7 (by decide); have z11 : vals 11 = _ := hf 11 (by decide)
      rw [z0, z1, z2, z3, z7, z11]
      clear z0 z1 z2 z3 z7 z11 hf hdis
      have MT := qHd (MT.out.below hb2)
      have PV := qHd (qaq PV.out hb2)
      have HB := qHd (qac HB.out hBw hb2)
      clear hb2 CR CK
      obtain ⟨cs, hcs, hcsz⟩ := MT.out.outCap
      go_wp2_with (with_reducible refine qan ?_)
      refine qcc g0 k hcs rfl rfl (by omega) (by kernel_rfl) ?_
      intro w3 hp3
      obtain ⟨cs3, hcs3, hcsz3⟩ : ∃ cs, w3.heap[g0]? = some (.cells cs 28) ∧ m ≤ cs.size := ⟨_, by rw [hp3]; exact putL_heap _ _ _ _ _ _ hcs (by simp; omega), by rw [List.size_toArray, spl_length (by simp; omega)]; simpa using hcsz⟩
      have HP3 := qHd hp3; clear hp3
      go_wp2_with (with_reducible refine qan ?_)
      refine qcc g0 r hcs3 rfl rfl (by omega) (by kernel_rfl) ?_
      intro w4 hp4
      obtain ⟨hMt, hSt⟩ := MT.out.swap hlt hrm EVR.out EVK.out HP3.out hp4
      have PV := qHd (PV.out.kept hSt.gr (fun g hg e => by cases e; have := (World.ownsRow.lt PV.out.1 g0 hg).1; omega))
      have HB := qHd (hSt.low HB.out (Nat.le_trans hBw HB.out.size) hg0.1)
      have LT := qHd (fun i (hi : i < m) g (hg : (V (sgm k r i)).ownBlock = some g) => LT.out _ (sgm_lt hlt hrm hi) g hg)
      have MT := qHd hMt
      obtain ⟨V2, hV2⟩ : ∃ V2, V2 = fun i => V (sgm k r i) := ⟨_, rfl⟩
      have LT := qHd (show ∀ i, i < m → ∀ g, (V2 i).ownBlock = some g → B ≤ g ∧ g < w.heap.size by rw [hV2]; exact LT.out)
      rw [← hV2] at MT
      have SZ2 := qHd (SZ.out.swap hlt hrm)
      obtain ⟨N2, hN2⟩ : ∃ N2, N2 = fswap N k r := ⟨_, rfl⟩
      have HN2 := qHd hN2
      rw [← hN2] at MT SZ2
      have hkk : N2 k k = N r k := by rw [hN2]; unfold fswap; rw [if_pos rfl]
      have NZ2 := qHd (show N2 k k ≠ 0 by rw [hkk]; exact NZ.out)
      have HKK := qHd hkk
      clear hMt hSt HP3 hp4 hcs hcs3 hcsz hcsz3 hV2 hN2 hkk EVR EVK hner hnek hBr hBk hc1 hc2 hc3 hc4
      -- the pivot in a variable of its own
      obtain ⟨gk, cgk, eVk, hc3, hc4, hBk, hnek, cK, hFk⟩ := MT.out.get (i := k) hlt (by omega)
      obtain ⟨sf, of, nf, cf, af, mf, df, x0, x1, x2, hIf⟩ := hFk.at (j := k) (by omega)
      have LP := qHd (show rl (N2 k k) ≤ 9640 from SZ2.out.rl (bk_len (by omega)) hlt (by omega))
      have SS := qHd (stepSz (by omega) SZ2.out hlt (by omega) NZ2.out)
      obtain ⟨p', hp'⟩ : ∃ p', p' = N2 k k := ⟨_, rfl⟩
      rw [← hp'] at LP SS NZ2 HKK hIf
      have HP' := qHd hp'
      have HKN := qHd (show N r k = p' from HKK.out.symm)
      clear hp' HKK
      obtain ⟨p, rfl⟩ : ∃ p, p = p' := ⟨_, rfl⟩
      obtain ⟨w5, hw5, hb5, hx5⟩ := qBx3 w4 (.cells #[.bool sf, .slice of nf cf, .slice af mf df] 37)
      obtain ⟨g8, hg8⟩ : ∃ g, g = w4.heap.size := ⟨_, rfl⟩
      have l8 : w.heap.size ≤ g8 := by rw [hg8]; exact HB.out.size
      rw [← hg8] at hx5
      have IF := qHd (hIf.below hb5); have G8 := qHd hx5
      have cK5 := qak cK hb5
      rw [hw5] at cK5
      go_wp2_with (with_reducible first | refine qah ?_ | refine qae ?_)
      rw [← hw5, ← hg8]
      clear hw5 hg8 x0 x1 x2 cK cK5 hIf hFk hx5
      refine qal.mk ?_
      have MT := qHd (MT.out.below hb5)
      have PV := qHd (qaq PV.out hb5)
      have HB := qHd (qac HB.out hBw hb5)
      clear hb5
      have EVK := qHd eVk; clear eVk
      have NG := qHd (show gk < w.heap.size ∧ B ≤ gk from (LT.out k hlt gk (by rw [EVK.out]; rfl)).symm)
      go_loopw [76] (fun i' wx => ∃ j : Nat, j ≤ m + 1 ∧ i' = .int .i64 j ∧ Hid (Mat wx B (.slice (some ⟨g0, 0, none⟩) m c0) m V2 (fun _ => m + 1) (fun a => if a = k then mix j (N2 k) (fun t => N2 k t / p) else N2 a)) ∧ Hid (qbm wx w.heap.size 3 1 (.slice po k pc) k (qco (qcs (List.range k)))) ∧ Hid (Below B w wx) ∧ Hid (wx.heap[g8]? = some (.cells #[.bool sf, .slice of nf cf, .slice af mf df] 37)) ∧ Hid (IsR wx (.agg #[.bool sf, .slice of nf cf, .slice af mf df]) p)) (fun i' _ => m + 1 - (intOf i').toNat)
      case atStart => exact ⟨0, Nat.zero_le _, rfl, qHd (MT.out.congr (fun i _ j _ => by by_cases e : i = k <;> simp [e, mix])), PV, HB, G8, IF⟩
      case round =>
       obtain ⟨j, hj, rfl, MT, PV, HB, G8, IF⟩ := hrel
       obtain ⟨wq, rfl⟩ : ∃ wq : World, wq = wr := ⟨_, rfl⟩
       by_cases hjl : j < m + 1
       ·have hjz : (j : Int) < (m : Int) + 1 := by omega
        obtain ⟨cK, hFk⟩ := MT.out.at hlt EVK.out
        simp only [if_true] at hFk
        obtain ⟨sx, ox, nx, cx, ax, mx, dx, x0, x1, x2, hIx⟩ := hFk.at hjl
        have ex : mix j (N2 k) (fun t => N2 k t / p) j = N2 k j := if_neg (by omega)
        rw [ex] at hIx
        have LX := qHd (show rl (N2 k j) ≤ 100000 from Nat.le_trans (SZ2.out.rl (bk_len (by omega)) hlt hjl) (by decide))
        have LP2 := qHd (show rl p ≤ 100000 from Nat.le_trans LP.out (by decide))
        have hNX := mix_next j (N2 k) (fun t => N2 k t / p)
        obtain ⟨xj, hxj⟩ : ∃ x, x = N2 k j := ⟨_, rfl⟩
        rw [← hxj] at LX hIx
        have HNX := qHd (show updR (mix j (N2 k) (fun t => N2 k t / p)) j (xj / p) = mix (j + 1) (N2 k) (fun t => N2 k t / p) by rw [hxj]; exact hNX)
        have IX := qHd hIx; have CX := qHd (And.intro x0 (And.intro x1 x2)); have CK := qHd cK
        have HD := qHd (show errV (dc p) = .nilIface by unfold dc; rw [if_neg NZ2.out]; exact qcm)
        clear hNX hxj hIx ex x0 x1 x2 cK hFk
        go_wp2_with (with_reducible first | refine qag ?_ | refine qah ?_ | refine qbb ?_ | refine qbc ?_ | refine qae ?_)
        refine qal.mk ?_
        refine qaj (A := ?aaDV) (w := wq) 17 [16] (by kernel_rfl) (Fl [KEq (.slice (some ⟨g0, 0, none⟩) m c0), KEq (.int .i64 (k : Nat)), KEq (.pointer (some ⟨g0, k, none⟩)), KEq (.slice (some ⟨gk, 0, none⟩) (m + 1) cgk), KEq (.int .i64 (j : Nat)), KEq (.slice (some ⟨g0, 0, none⟩) m c0), KEq (.int .i64 (k : Nat)), KEq (.pointer (some ⟨g0, k, none⟩)), KEq (.slice (some ⟨gk, 0, none⟩) (m + 1) cgk), KEq (.int .i64 (j : Nat)), KEq (.pointer (some ⟨gk, j * 3, none⟩)), KEq (.agg #[.bool sx, .slice ox nx cx, .slice ax mx dx]), KEq (.agg #[.bool sf, .slice of nf cf, .slice af mf df]), KRE (xj / p) .nilIface, KRE (xj / p) .nilIface, KIs (xj / p), KEq (.nilIface)]) (fun i => false) (by kernel_rfl) ?hqDV (qdk (qad (kEq _) (qad (kEq _) (qad (kEq _) (qad (kEq _) (qad (kEq _) (qad (kEq _) (qad (kEq _) (qad (kEq _) (qad (kEq _) (qad (kEq _) (qad (kEq _) (qad (kEq _) (qad (kEq _) (qad (kRE _ _) (qad (kRE _ _) (qad (kIs _) (qad (kEq _) qdj)))))))))))))))))) ?haDV ?stDV ?tlDV
        case hqDV =>
         intro c a d v w h
         first | (simp only [Exit.then] at h ⊢; exact h) | (simp only [Exit.inBlock, Exit.then] at h ⊢; exact h) | exact h
        case haDV =>
         intro vals
         simp only [qat, qby, if_true, Act.put, List.setIfInBounds_toArray, List.set_cons_zero, List.set_cons_succ, List.getElem?_toArray, List.getElem?_cons_zero, List.getElem?_cons_succ, Option.bind_some]
         exact rfl
        case stDV =>
         simp only [List.take_succ_cons, List.take_zero]
         refine qaa rfl rfl ?_ (qaa rfl rfl ?_ (qaa rfl rfl ?_ (qaa rfl rfl ?_ (qaa rfl rfl ?_ (qaa rfl rfl ?_ (qaa rfl rfl ?_ (qaa rfl rfl ?_ (qaa rfl rfl ?_ (qaa rfl rfl ?_ (qaa rfl rfl ?_ (qaa rfl rfl ?_ (qaa rfl rfl ?_ (qaa rfl rfl ?_ (qaa rfl rfl ?_ (qaa rfl rfl ?_ (qci rfl ?_ (qau)))))))))))))))))
         ·intro vals w1 hb hd
          refine qSv (.slice (some ⟨g0, 0, none⟩) m c0) (by go_simp) (qLk rfl rfl)
         ·intro vals w1 hb hd
          refine qSv (.int .i64 (k : Nat)) (by go_simp) (qLk rfl rfl)
         ·intro vals w1 hb hd
          rw [show vals 0 = .slice (some ⟨g0, 0, none⟩) m c0 from hd 0 (by kernel_rfl)]
          rw [show vals 1 = .int .i64 (k : Nat) from hd 1 (by kernel_rfl)]
          refine qSv (.pointer (some ⟨g0, k, none⟩)) (by go_simp) (qLk rfl rfl)
         ·intro vals w1 hb hd
          have e0 := qak CK.out hb
          rw [show vals 2 = .pointer (some ⟨g0, k, none⟩) from hd 2 (by kernel_rfl)]
          refine qSv (.slice (some ⟨gk, 0, none⟩) (m + 1) cgk) (by go_simp) (qLk rfl rfl)
         ·intro vals w1 hb hd
          refine qSv (.int .i64 (j : Nat)) (by go_simp) (qLk rfl rfl)
         ·intro vals w1 hb hd
          refine qSv (.slice (some ⟨g0, 0, none⟩) m c0) (by go_simp) (qLk rfl rfl)
         ·intro vals w1 hb hd
          refine qSv (.int .i64 (k : Nat)) (by go_simp) (qLk rfl rfl)
         ·intro vals w1 hb hd
          rw [show vals 5 = .slice (some ⟨g0, 0, none⟩) m c0 from hd 5 (by kernel_rfl)]
          rw [show vals 6 = .int .i64 (k : Nat) from hd 6 (by kernel_rfl)]
          refine qSv (.pointer (some ⟨g0, k, none⟩)) (by go_simp) (qLk rfl rfl)
         ·intro vals w1 hb hd
          have e0 := qak CK.out hb
          rw [show vals 7 = .pointer (some ⟨g0, k, none⟩) from hd 7 (by kernel_rfl)]
          refine qSv (.slice (some ⟨gk, 0, none⟩) (m + 1) cgk) (by go_simp) (qLk rfl rfl)
         ·intro vals w1 hb hd
          refine qSv (.int .i64 (j : Nat)) (by go_simp) (qLk rfl rfl)
         ·intro vals w1 hb hd
          rw [show vals 8 = .slice (some ⟨gk, 0, none⟩) (m + 1) cgk from hd 8 (by kernel_rfl)]
          rw [show vals 9 = .int .i64 (j : Nat) from hd 9 (by kernel_rfl)]
          refine qSv (.pointer (some ⟨gk, j * 3, none⟩)) (by go_simp) (qLk rfl rfl)
         ·intro vals w1 hb hd
          obtain ⟨e0, e1, e2⟩ := qax CX.out hb
          rw [show vals 10 = .pointer (some ⟨gk, j * 3, none⟩) from hd 10 (by kernel_rfl)]
          refine qSv (.agg #[.bool sx, .slice ox nx cx, .slice ax mx dx]) (by go_simp) (qLk rfl rfl)
         ·intro vals w1 hb hd
          obtain ⟨e0, e1, e2⟩ := row3 (qab G8.out hb)
          refine qSv (.agg #[.bool sf, .slice of nf cf, .slice af mf df]) (by go_simp) (qLk rfl rfl)
         ·intro vals w1 hb hd
          have d11 : KEq (.agg #[.bool sx, .slice ox nx cx, .slice ax mx dx]) (vals 11) w1 := hd 11 (by kernel_rfl)
          have d12 : KEq (.agg #[.bool sf, .slice of nf cf, .slice af mf df]) (vals 12) w1 := hd 12 (by kernel_rfl)
          have hs := divq_any _ xj _ p w1 ((IX.out.below hb).is LX.out) ((IF.out.below hb).is LP2.out)
          rw [HD.out] at hs
          have HS2 := qHd hs; clear hs
          rw [show vals 11 = _ from d11, show vals 12 = _ from d12]
          refine qar (by go_simp; first | done | exact ⟨⟨rfl, rfl⟩, rfl⟩) ?_
          (with_reducible refine HS2.out.mono ?_); rintro e w2 ⟨v, rfl, hb2, hn⟩
          exact ⟨_, rfl, qai hb2 ⟨v, rfl, hn⟩ (fun h => by cases h)⟩
         ·intro vals w1 hb hd
          have d13 : KRE (xj / p) .nilIface (vals 13) w1 := hd 13 (by kernel_rfl)
          obtain ⟨b, eb, hq⟩ := d13
          rw [eb]
          refine qaf (v := .tuple #[b, .nilIface]) (w' := w1) (by go_simp) (qai (Below.refl _ _) ⟨b, rfl, hq⟩ (fun h => by cases h))
         ·intro vals w1 hb hd
          have d14 : KRE (xj / p) .nilIface (vals 14) w1 := hd 14 (by kernel_rfl)
          obtain ⟨b, eb, hq⟩ := d14
          rw [eb]
          refine qaf (v := b) (w' := w1) (by go_simp) (qai (Below.refl _ _) hq (fun h => by cases h))
         ·intro vals w1 hb hd
          have d14 : KRE (xj / p) .nilIface (vals 14) w1 := hd 14 (by kernel_rfl)
          obtain ⟨b, eb, hq⟩ := d14
          rw [eb]
          refine qbv (v := .nilIface) (fun w => by go_simp) (qLk rfl rfl)
        case tlDV =>
         intro vals w6 hb6 hf hdis
         simp only [List.drop_succ_cons, List.drop_zero]
         have z3 : vals 3 = _ := hf 3 (by decide); have z4 : vals 4 = _ := hf 4 (by decide)
         have hn : IsR w6 (vals 15) (xj / p) := hf 15 (by decide)
         rw [z3, z4]
         obtain ⟨rr, hrr⟩ : ∃ rr, rr = vals 15 := ⟨_, rfl⟩
         rw [← hrr] at hn ⊢
         clear z3 z4 hf hdis hrr
         obtain ⟨sz, oz, nz, cz, az, mz, dz, rfl⟩ := hn.shape
         have MT := qHd (MT.out.below hb6)
         have PV := qHd (qaq PV.out hb6)
         have HB := qHd (qac HB.out hBw hb6)
         have G8 := qHd (qab G8.out hb6)
         have IF := qHd (IF.out.below hb6)
         have IZ := qHd hn
         clear hb6 hn CX CK IX
         obtain ⟨_, hFk⟩ := MT.out.at hlt EVK.out
         simp only [if_true] at hFk
         obtain ⟨cs, hcs, hcsz⟩ := qbe hFk
         go_wp2_with (with_reducible refine qan ?_)
         refine qba gk (j * 3) [.bool sz, .slice oz nz cz, .slice az mz dz] hcs rfl rfl (by simp only [List.length_cons, List.length_nil]; omega) (by kernel_rfl) rfl ?_
         intro wz hpz
         obtain ⟨hX, hSt⟩ := hFk.put hjl IZ.out hpz
         have MT := qHd ((MT.out.rowPut hlt (x := mix (j + 1) (N2 k) (fun t => N2 k t / p)) (by rw [EVK.out, ← HNX.out]; exact hX) (by rw [EVK.out]; exact hSt)).congr (N := (fun a => if a = k then mix (j + 1) (N2 k) (fun t => N2 k t / p) else N2 a)) (fun i _ j _ => by by_cases e : i = k <;> simp [e]))
         have PV := qHd (PV.out.kept hSt.gr (fun g hg e => by cases e; have := (World.ownsRow.lt PV.out.1 gk hg).1; have := NG.out.1; omega))
         have HB := qHd (hSt.low HB.out (Nat.le_trans hBw HB.out.size) NG.out.2)
         have G8 := qHd (hSt.heap G8.out (fun e => by cases e; have := NG.out.1; omega))
         have IF := qHd (hSt.I IF.out)
         clear hX hSt hpz hcs hcsz hFk IZ
         go_wp2_with fail
         go_roundw
         case rel => exact ⟨j + 1, by omega, by go_num, MT, PV, HB, G8, IF⟩
         case measure => simp [intOf]; omega
       ·have HJ := qHd (show j = m + 1 by omega)
        have MT := qHd (MT.out.congr (N := clr (fdiv N2 k p) k 0) (fun i _ t hj => by
         show (if i = k then mix j (N2 k) (fun t => N2 k t / p) else N2 i) t = fdiv N2 k p i t
         unfold fdiv
         by_cases e : i = k
         ·subst e; rw [if_pos rfl, if_pos rfl]; exact if_pos (by rw [HJ.out]; exact hj)
         ·rw [if_neg e, if_neg e]))
        obtain ⟨N3, hN3⟩ : ∃ N3, N3 = fdiv N2 k p := ⟨_, rfl⟩
        have HN3 := qHd hN3
        rw [← hN3] at MT
        have SS := qHd (show StepSz N3 m (m + 1) k 9640 by rw [hN3]; exact SS.out)
        have hjz : ¬ ((j : Int) < (m : Int) + 1) := by omega
        clear hN3 G8 IF
        go_wp2_with (with_reducible first | refine qah ?_ | refine qae ?_)
        refine qal.mk ?_
        go_loopw [100] (fun i' wx => ∃ i : Nat, i ≤ m ∧ i' = .int .i64 i ∧ Hid (Mat wx B (.slice (some ⟨g0, 0, none⟩) m c0) m V2 (fun _ => m + 1) (clr N3 k i)) ∧ Hid (qbm wx w.heap.size 3 1 (.slice po k pc) k (qco (qcs (List.range k)))) ∧ Hid (Below B w wx)) (fun i' _ => m - (intOf i').toNat)
        case atStart => exact ⟨0, Nat.zero_le _, rfl, MT, PV, HB⟩
        case round =>
         obtain ⟨i, hi, rfl, MT, PV, HB⟩ := hrel
         obtain ⟨wq, rfl⟩ : ∃ wq : World, wq = wr := ⟨_, rfl⟩
         by_cases hil : i < m
         ·have hiz : (i : Int) < (m : Int) := by omega
          by_cases hik : i = k
          ·subst hik
           have HE := qHd (show clr N3 i (i + 1) = clr N3 i i by simp only [clr]; rw [if_pos (.inl trivial)])
           go_wp2_with fail
           go_roundw
           case rel => exact ⟨i + 1, by omega, by go_num, qHd (by rw [HE.out]; exact MT.out), PV, HB⟩
           case measure => simp [intOf]; omega
          ·have hikz : ¬ ((i : Int) = (k : Int)) := by omega
           have hikb : ((i : Int) != (k : Int)) = true := bne_iff_ne.2 hikz
           obtain ⟨gi, cgi, eVi, hc5, hc6, hBi, hnei, cI, hFi⟩ := MT.out.get (i := i) hil (by omega)
           obtain ⟨sx, ox, nx, cx, ax, mx, dx, x0, x1, x2, hIx⟩ := hFi.at (j := k) (by omega)
           obtain ⟨r1, r2⟩ := clr_row N3 k i
           have exi := r2 i (Nat.le_refl i)
           have LXI := qHd (fun j (hj : j < m + 1) => (show rl (clr N3 k i i j) ≤ 30000 by rw [exi]; exact Nat.le_trans (SS.out.old i hil j hj) (by decide)))
           have LXK := qHd (fun j (hj : j < m + 1) => (show rl (clr N3 k i k j) ≤ 30000 by rw [r1]; exact Nat.le_trans (SS.out.old k hlt j hj) (by decide)))
           obtain ⟨CL, hCL⟩ : ∃ CL, CL = clr N3 k i := ⟨_, rfl⟩
           have HCS := qHd (show clr N3 k (i + 1) = if CL i k = 0 then CL else fless CL i k (CL i k) by
            simp only [clr]
            rw [← hCL]
            by_cases h0 : CL i k = 0
            ·rw [if_pos (.inr h0), if_pos h0]
            ·rw [if_neg (fun h => h.elim hik h0), if_neg h0])
           rw [← hCL] at MT LXI LXK hFi hIx
           clear hCL exi r1 r2
           obtain ⟨xi, hxi⟩ : ∃ x, x = CL i k := ⟨_, rfl⟩
           rw [← hxi] at hIx
           have LX := qHd (show rl xi ≤ 30000 by rw [hxi]; exact LXI.out k (by omega))
           rw [← hxi] at HCS
           have HXI := qHd hxi
           have IX := qHd hIx; have CX := qHd (And.intro x0 (And.intro x1 x2)); have CI := qHd cI; have EVI := qHd eVi
           have NI := qHd (show gi < w.heap.size ∧ B ≤ gi from (LT.out i hil gi (by rw [EVI.out]; rfl)).symm)
           have NEIK := qHd (show gi ≠ gk from fun e => MT.out.inj i k hil hlt hik gi (by rw [EVI.out]; rfl) (by rw [EVK.out, e]; rfl))
           clear hIx hFi hxi eVi hikz
           have HK := qHd (sign_any _ xi wq (IX.out.is (Nat.le_trans LX.out (by decide))))
           go_wp2_with (with_reducible refine qag ?_)
           clear x0 x1 x2 cI
           refine qal.mk ?_
           (with_reducible refine HK.out.mono ?_); rintro e w6 ⟨rfl, hb6⟩
           have MT := qHd (MT.out.below hb6)
           have PV := qHd (qaq PV.out hb6)
           have HB := qHd (qac HB.out hBw hb6)
           have CI := qHd (qak CI.out hb6)
           have CX := qHd (qax CX.out hb6)
           have IX := qHd (IX.out.below hb6)
           clear hb6 HK
           by_cases hz : xi = 0
           ·have hsg : sg xi = 0 := by rw [hz]; exact sgz0
            rw [hsg]
            have HE := qHd (show clr N3 k (i + 1) = CL by rw [HCS.out, if_pos hz])
            clear hsg hz
            go_wp2_with fail
            go_roundw
            case rel => exact ⟨i + 1, by omega, by go_num, qHd (by rw [HE.out]; exact MT.out), PV, HB⟩
            case measure => simp [intOf]; omega
           ·obtain ⟨hsg, hsg2⟩ := sgnz hz
            have HE := qHd (show clr N3 k (i + 1) = fless CL i k xi by rw [HCS.out, if_neg hz])
            obtain ⟨sgx, hsgx⟩ : ∃ s, s = sg xi := ⟨_, rfl⟩
            rw [← hsgx] at hsg hsg2 ⊢
            clear hsgx hz HCS
            obtain ⟨cK, _⟩ := MT.out.at hlt EVK.out
            have CK := qHd cK; clear cK
            go_wp2_with (with_reducible first | refine qag ?_ | refine qah ?_ | refine qbb ?_ | refine qbc ?_ | refine qae ?_)
            refine qal.mk ?_
            refine qaj (A := ?aaLE) (w := w6) 15 [] (by kernel_rfl) (Fl [KEq (.slice (some ⟨g0, 0, none⟩) m c0), KEq (.int .i64 (i : Nat)), KEq (.pointer (some ⟨g0, i, none⟩)), KEq (.slice (some ⟨gi, 0, none⟩) (m + 1) cgi), KEq (.slice (some ⟨g0, 0, none⟩) m c0), KEq (.int .i64 (k : Nat)), KEq (.pointer (some ⟨g0, k, none⟩)), KEq (.slice (some ⟨gk, 0, none⟩) (m + 1) cgk), KEq (.slice (some ⟨g0, 0, none⟩) m c0), KEq (.int .i64 (i : Nat)), KEq (.pointer (some ⟨g0, i, none⟩)), KEq (.slice (some ⟨gi, 0, none⟩) (m + 1) cgi), KEq (.int .i64 (k : Nat)), KEq (.pointer (some ⟨gi, k * 3, none⟩)), KEq (.agg #[.bool sx, .slice ox nx cx, .slice ax mx dx])]) (fun i => false) (by kernel_rfl) ?hqLE (qdk (qad (kEq _) (qad (kEq _) (qad (kEq _) (qad (kEq _) (qad (kEq _) (qad (kEq _) (qad (kEq _) (qad (kEq _) (qad (kEq _) (qad (kEq _) (qad (kEq _) (qad (kEq _) (qad (kEq _) (qad (kEq _) (qad (kEq _) qdj)))))))))))))))) ?haLE ?stLE ?tlLE
            case hqLE =>
             intro c a d v w h
             first | (simp only [Exit.then] at h ⊢; exact h) | (simp only [Exit.inBlock, Exit.then] at h ⊢; exact h) | exact h
            case haLE =>
             intro vals
             simp only [qat, qby, if_true, Act.put, List.setIfInBounds_toArray, List.set_cons_zero, List.set_cons_succ, List.getElem?_toArray, List.getElem?_cons_zero, List.getElem?_cons_succ, Option.bind_some]
             exact rfl
            case stLE =>
             simp only [List.take_succ_cons, List.take_zero]
             refine qaa rfl rfl ?_ (qaa rfl rfl ?_ (qaa rfl rfl ?_ (qaa rfl rfl ?_ (qaa rfl rfl ?_ (qaa rfl rfl ?_ (qaa rfl rfl ?_ (qaa rfl rfl ?_ (qaa rfl rfl ?_ (qaa rfl rfl ?_ (qaa rfl rfl ?_ (qaa rfl rfl ?_ (qaa rfl rfl ?_ (qaa rfl rfl ?_ (qaa rfl rfl ?_ (qau)))))))))))))))
             ·intro vals w1 hb hd
              refine qSv (.slice (some ⟨g0, 0, none⟩) m c0) (by go_simp) (qLk rfl rfl)
             ·intro vals w1 hb hd
              refine qSv (.int .i64 (i : Nat)) (by go_simp) (qLk rfl rfl)
             ·intro vals w1 hb hd
              rw [show vals 0 = .slice (some ⟨g0, 0, none⟩) m c0 from hd 0 (by kernel_rfl)]
              rw [show vals 1 = .int .i64 (i : Nat) from hd 1 (by kernel_rfl)]
              refine qSv (.pointer (some ⟨g0, i, none⟩)) (by go_simp) (qLk rfl rfl)
             ·intro vals w1 hb hd
              have e0 := qak CI.out hb
              rw [show vals 2 = .pointer (some ⟨g0, i, none⟩) from hd 2 (by kernel_rfl)]
              refine qSv (.slice (some ⟨gi, 0, none⟩) (m + 1) cgi) (by go_simp) (qLk rfl rfl)
             ·intro vals w1 hb hd
              refine qSv (.slice (some ⟨g0, 0, none⟩) m c0) (by go_simp) (qLk rfl rfl)
             ·intro vals w1 hb hd
              refine qSv (.int .i64 (k : Nat)) (by go_simp) (qLk rfl rfl)
             ·intro vals w1 hb hd
              rw [show vals 4 = .slice (some ⟨g0, 0, none⟩) m c0 from hd 4 (by kernel_rfl)]
              rw [show vals 5 = .int .i64 (k : Nat) from hd 5 (by kernel_rfl)]
              refine qSv (.pointer (some ⟨g0, k, none⟩)) (by go_simp) (qLk rfl rfl)
             ·intro vals w1 hb hd
              have e0 := qak CK.out hb
              rw [show vals 6 = .pointer (some ⟨g0, k, none⟩) from hd 6 (by kernel_rfl)]
              refine qSv (.slice (some ⟨gk, 0, none⟩) (m + 1) cgk) (by go_simp) (qLk rfl rfl)
             ·intro vals w1 hb hd
              refine qSv (.slice (some ⟨g0, 0, none⟩) m c0) (by go_simp) (qLk rfl rfl)
             ·intro vals w1 hb hd
              refine qSv (.int .i64 (i : Nat)) (by go_simp) (qLk rfl rfl)
             ·intro vals w1 hb hd
              rw [show vals 8 = .slice (some ⟨g0, 0, none⟩) m c0 from hd 8 (by kernel_rfl)]
              rw [show vals 9 = .int .i64 (i : Nat) from hd 9 (by kernel_rfl)]
              refine qSv (.pointer (some ⟨g0, i, none⟩)) (by go_simp) (qLk rfl rfl)
             ·intro vals w1 hb hd
              have e0 := qak CI.out hb
              rw [show vals 10 = .pointer (some ⟨g0, i, none⟩) from hd 10 (by kernel_rfl)]
              refine qSv (.slice (some ⟨gi, 0, none⟩) (m + 1) cgi) (by go_simp) (qLk rfl rfl)
             ·intro vals w1 hb hd
              refine qSv (.int .i64 (k : Nat)) (by go_simp) (qLk rfl rfl)
             ·intro vals w1 hb hd
              rw [show vals 11 = .slice (some ⟨gi, 0, none⟩) (m + 1) cgi from hd 11 (by kernel_rfl)]
              rw [show vals 12 = .int .i64 (k : Nat) from hd 12 (by kernel_rfl)]
              refine qSv (.pointer (some ⟨gi, k * 3, none⟩)) (by go_simp) (qLk rfl rfl)
             ·intro vals w1 hb hd
              obtain ⟨e0, e1, e2⟩ := qax CX.out hb
              rw [show vals 13 = .pointer (some ⟨gi, k * 3, none⟩) from hd 13 (by kernel_rfl)]
              refine qSv (.agg #[.bool sx, .slice ox nx cx, .slice ax mx dx]) (by go_simp) (qLk rfl rfl)
            case tlLE =>
             intro vals w7 hb7 hf hdis
             simp only [List.drop_succ_cons, List.drop_zero]
             have z3 : vals 3 = _ := hf 3 (by decide); have z7 : vals 7 = _ := hf 7 (by decide); have z14 : vals 14 = _ := hf 14 (by decide)
             rw [z3, z7, z14]
             clear z3 z7 z14 hf hdis
             have MT := qHd (MT.out.below hb7)
             have PV := qHd (qaq PV.out hb7)
             have HB := qHd (qac HB.out hBw hb7)
             have IX := qHd (IX.out.below hb7)
             clear hb7 CI CX CK
             obtain ⟨_, hFi⟩ := MT.out.at hil EVI.out
             obtain ⟨_, hFk⟩ := MT.out.at hlt EVK.out
             have HK := qHd (less_any gi gk (m + 1) cgi cgk B B (CL i) (CL k) _ xi w7 hFi hFk NEIK.out IX.out LXI.out LXK.out LX.out (by omega) ⟨hc5, hc6⟩ ⟨hc3, hc4⟩)
             clear hFi hFk
             go_wp2_with (with_reducible refine qag ?_)
             refine qal.mk ?_
             (with_reducible refine HK.out.mono ?_); rintro e w8 ⟨rfl, hX, hSt⟩
             have MT := qHd ((MT.out.rowPut hil (x := fun j => CL i j - xi * CL k j) (by rw [EVI.out]; exact hX) (by rw [EVI.out]; exact hSt)).congr (N := fless CL i k xi) (fun a _ j _ => by
              unfold fless
              by_cases e : a = i
              ·subst e; rw [if_pos rfl, if_pos rfl]
              ·rw [if_neg e, if_neg e]))
             have PV := qHd (PV.out.kept hSt.gr (fun g hg e => by cases e; have := (World.ownsRow.lt PV.out.1 gi hg).1; have := NI.out.1; omega))
             have HB := qHd (hSt.low HB.out (Nat.le_trans hBw HB.out.size) NI.out.2)
             clear hX hSt HK
             go_wp2_with fail
             go_roundw
             case rel => exact ⟨i + 1, by omega, by go_num, qHd (by rw [HE.out]; exact MT.out), PV, HB⟩
             case measure => simp [intOf]; omega
         ·have hi' : i = m := by omega
          subst hi'
          have UC2 := qHd (step_unit UC.out hlt hr1 hrm NZ.out)
          have KR2 := qHd (fun z => (step_ker (c := i + 1) (z := z) hlt hrm NZ.out).trans (KR.out z))
          have SZ3 := qHd (SZ.out.next hlt (by omega) hrm NZ.out)
          have EN := qHd (show clr N3 k i = clr (fdiv (fswap N k r) k (N r k)) k i by rw [HN3.out, HN2.out, HKN.out])
          rw [← EN.out] at UC2 SZ3
          have KR3 := qHd (show ∀ z, KerM (clr N3 k i) i (i + 1) z ↔ KerM M i (i + 1) z by rw [EN.out]; exact KR2.out)
          have SZ3 := qHd (show SzM (clr N3 k i) i (i + 1) (bk (k + 1)) by rw [← bk_succ]; exact SZ3.out)
          go_wp2_with (with_reducible refine qbf ?_)
          obtain ⟨wa, hwa, hba, hxa⟩ := qBx3 wq (.cells #[.int .i64 (k : Nat)] 3)
          rw [← hwa]
          have MT := qHd (MT.out.below hba)
          have PV := qHd (qaq PV.out hba)
          have HB := qHd (qac HB.out hBw hba)
          clear hba hwa
          have hsz8 : w.heap.size ≤ wa.heap.size := HB.out.size
          refine qbo w.heap.size Tryz.intTyL rfl noUi (by decide) _ k _ [.int .i64 (k : Nat)] wq.heap.size 3 rfl rfl PV.out hxa rfl rfl noUi (noU_ivals _) (by omega) (by decide) HB.out.size ?_
          intro v' w8 ho8 hg8 _
          have hSt := stp_own PV.out hg8
          have hpb := fun g hg => (World.ownsRow.lt PV.out.1 g hg).1
          have MT := qHd (MT.out.stp hSt (fun g hg e => by have h1 := hpb _ e; have h2 : g0 = g := Option.some.inj hg; have h3 := hg0.2; omega) (fun a ha g hg e => by have := hpb _ e; have := (LT.out a ha g hg).2; omega))
          have HB := qHd (hSt.low' HB.out (Nat.le_trans hBw HB.out.size) (fun g e => Nat.le_trans hBw (hpb _ e)))
          have PV := qHd (show qbm w8 w.heap.size 3 1 v' (k + 1) (qco (qcs (List.range (k + 1)))) by rw [nints_snoc]; exact ho8)
          clear ho8 hg8 hSt hpb hxa
          go_wp2_with fail
          go_roundw
          case rel => exact ⟨k + 1, V2, clr N3 k i, by omega, by go_num, MT, PV, HB, UC2, KR3, SZ3, LT⟩
          case measure => simp [intOf]; omega
  ·have hk' : k = m := by omega
   subst hk'
   go_wp2_with fail
   go_ret2
   exact ⟨_, V, N, _, rfl, HB.out, MT.out, UC.out, KR.out, SZ.out, PV.out⟩
theorem cstate_any (n s : Nat) (s0 : Nat) (mo bo : Option Addr) (ml mc bl bc : Nat) (w : World) (hs : s < n) :
  Calls Tryz.prog 51 #[.agg #[.int .i64 n, .int .i64 s0, .slice mo ml mc, .slice bo bl bc], .int .i64 (s : Nat)] w (RetV w (.bool true)) := by
 have hsz : ((s : Nat) : Int) < (n : Int) := by omega
 have hs0 : (0 : Int) ≤ ((s : Nat) : Int) := by omega
 obtain ⟨W, hW⟩ : ∃ z0, z0 = w.alloc (.cells #[.int .i64 n, .int .i64 s0, .slice mo ml mc, .slice bo bl bc] 25) := ⟨_, rfl⟩
 have b_W : Below w.heap.size w W := by rw [hW]; exact qBA _ _
 have s_W : W.heap.size = w.heap.size + 1 := by rw [hW]; exact Array.size_push (xs := w.heap) _
 have hg_gc : W.heap[w.heap.size]? = some (.cells #[.int .i64 n, .int .i64 s0, .slice mo ml mc, .slice bo bl bc] 25) := (by rw [hW]; exact heap_alloc_new w _)
 have HBW := qHd (show Below w.heap.size w W from b_W)
 obtain ⟨gc, hgc⟩ : ∃ g, g = w.heap.size := ⟨_, rfl⟩
 rw [← hgc] at hg_gc
 have l_gc : w.heap.size ≤ gc ∧ gc < W.heap.size := by rw [s_W]; omega
 have G_gc := qHd hg_gc
 obtain ⟨gcx0, gcx1, gcx2, gcx3⟩ := qbn hg_gc
 rw [hW, hgc] at gcx0 gcx1 gcx2 gcx3
 clear hg_gc b_W s_W
 go_enter Tryz.func51, Tryz.ntmps51
 go_wp2_with fail
 rw [← hW]
 go_ret
 exact ⟨rfl, HBW.out⟩
theorem cbefore_any (x y : Mv) (sx sy : Bool) (ox oy ax ay : Option Addr) (nx cx mx dx ny cy my dy : Nat) (w : World) (h : x.a < y.a ∨ x.a = y.a ∧ x.b < y.b) :
  Calls Tryz.prog 52 #[.agg #[.int .i64 (x.a : Nat), .int .i64 (x.b : Nat), .bool sx, .slice ox nx cx, .slice ax mx dx], .agg #[.int .i64 (y.a : Nat), .int .i64 (y.b : Nat), .bool sy, .slice oy ny cy, .slice ay my dy]] w (RetV w (.bool true)) := by
 obtain ⟨Wb0, hWb0⟩ : ∃ z0, z0 = w.alloc (.cells #[.int .i64 (x.a : Nat), .int .i64 (x.b : Nat), .bool sx, .slice ox nx cx, .slice ax mx dx] 45) := ⟨_, rfl⟩
 have b_Wb0 : Below w.heap.size w Wb0 := by rw [hWb0]; exact qBA _ _
 have s_Wb0 : Wb0.heap.size = w.heap.size + 1 := by rw [hWb0]; exact Array.size_push (xs := w.heap) _
 obtain ⟨W, hW⟩ : ∃ z0, z0 = Wb0.alloc (.cells #[.int .i64 (y.a : Nat), .int .i64 (y.b : Nat), .bool sy, .slice oy ny cy, .slice ay my dy] 45) := ⟨_, rfl⟩
 have b_W : Below Wb0.heap.size Wb0 W := by rw [hW]; exact qBA _ _
 have s_W : W.heap.size = w.heap.size + 1 + 1 := by rw [hW]; rw [← s_Wb0]; exact Array.size_push (xs := Wb0.heap) _
 have hg_gx : W.heap[w.heap.size]? = some (.cells #[.int .i64 (x.a : Nat), .int .i64 (x.b : Nat), .bool sx, .slice ox nx cx, .slice ax mx dx] 45) := (qab (by rw [hWb0]; exact heap_alloc_new w _) b_W)
 have hg_gy : W.heap[w.heap.size + 1]? = some (.cells #[.int .i64 (y.a : Nat), .int .i64 (y.b : Nat), .bool sy, .slice oy ny cy, .slice ay my dy] 45) := (by rw [← s_Wb0]; rw [hW]; exact heap_alloc_new Wb0 _)
 have HBW := qHd (show Below w.heap.size w W from (b_Wb0.trans (b_W.mono (by rw [s_Wb0]; omega))))
 obtain ⟨gx, hgx⟩ : ∃ g, g = w.heap.size := ⟨_, rfl⟩
 rw [← hgx] at hg_gx
 have l_gx : w.heap.size ≤ gx ∧ gx < W.heap.size := by rw [s_W]; omega
 obtain ⟨gy, hgy⟩ : ∃ g, g = w.heap.size + 1 := ⟨_, rfl⟩
 rw [← hgy] at hg_gy
 have l_gy : w.heap.size ≤ gy ∧ gy < W.heap.size := by rw [s_W]; omega
 have G_gx := qHd hg_gx
 have G_gy := qHd hg_gy
 obtain ⟨gxx0, gxx1, gxx2, gxx3, gxx4⟩ := qbz hg_gx
 rw [hW, hWb0, hgx] at gxx0 gxx1 gxx2 gxx3 gxx4
 obtain ⟨gyx0, gyx1, gyx2, gyx3, gyx4⟩ := qbz hg_gy
 rw [hW, hWb0, hgy] at gyx0 gyx1 gyx2 gyx3 gyx4
 clear hg_gx hg_gy b_Wb0 b_W s_Wb0 s_W
 go_enter Tryz.func52, Tryz.ntmps52
 rcases h with h | ⟨h, k⟩
 ·have hz : ((x.a : Nat) : Int) < ((y.a : Nat) : Int) := by omega
  go_wp2_with fail
  rw [← hWb0, ← hW]
  go_ret
  exact ⟨rfl, HBW.out⟩
 ·have hz : ¬ ((x.a : Nat) : Int) < ((y.a : Nat) : Int) := by omega
  have he : (((x.a : Nat) : Int) == ((y.a : Nat) : Int)) = true := by rw [h]; exact beq_self_eq_true _
  have hk : ((x.b : Nat) : Int) < ((y.b : Nat) : Int) := by omega
  clear h
  go_wp2_with fail
  rw [← hWb0, ← hW]
  go_ret
  exact ⟨rfl, HBW.out⟩
theorem madeF {w : World} {n : Nat} {w' : World} {B : Nat} (h : w'.ownsRow B 37 3 (.slice (some ⟨w.heap.size, 0, none⟩) n n) n (madeCells #[.bool false, .slice none 0 0, .slice none 0 0] (n * 3)).toList) (hw : w' = w.alloc (.cells (madeCells #[.bool false, .slice none 0 0, .slice none 0 0] (n * 3)) 37)) : FrL w' B (.slice (some ⟨w.heap.size, 0, none⟩) n n) n (fun _ => 0) := by
 have key : ∀ j, j < n * 3 → (madeCells #[.bool false, .slice none 0 0, .slice none 0 0] (n * 3)).toList[j]? = #[Value.bool false, .slice none 0 0, .slice none 0 0][j % 3]? := fun j hj => by
  have hj3 : j % 3 < 3 := Nat.mod_lt _ (by decide)
  have h3 : j % 3 = 0 ∨ j % 3 = 1 ∨ j % 3 = 2 := by omega
  unfold madeCells
  rw [Array.getElem?_toList, Array.getElem?_map, Array.getElem?_range, if_pos hj]
  simp only [Option.map_some]
  rcases h3 with e | e | e <;> simp [e]
 refine ⟨_, ⟨h, fun g cur hg hc => ?_⟩, fun j hj => ⟨false, none, 0, 0, none, 0, 0, ?_, ?_, ?_, isR_zero _⟩⟩
 ·simp only [Value.ownBlock, Option.some.injEq] at hg
  subst hg
  rw [hw, heap_alloc_new] at hc
  simp only [Option.some.injEq, Obj.cells.injEq] at hc
  rw [← hc.1]
  intro u hu k
  obtain ⟨j, hj, e⟩ := List.getElem_of_mem hu
  have hj' : j < n * 3 := by rw [Array.length_toList, size_madeCells] at hj; exact hj
  have h1 := key j hj'
  rw [List.getElem?_eq_getElem hj, e] at h1
  have h3 : j % 3 = 0 ∨ j % 3 = 1 ∨ j % 3 = 2 := by omega
  rcases h3 with e3 | e3 | e3 <;> rw [e3] at h1 <;> simp at h1 <;> rw [h1] <;> exact fun e => by cases e
 ·rw [key _ (by omega), show j * 3 % 3 = 0 by omega]; rfl
 ·rw [key _ (by omega), show (j * 3 + 1) % 3 = 1 by omega]; rfl
 ·rw [key _ (by omega), show (j * 3 + 2) % 3 = 2 by omega]; rfl
section
variable {P : Program} {w : World} {ops : Array Oper} {rest : List Oper} {a : Act} {Q : Exit → Act → World → Prop}
theorem qaw {d : Option Tmp} {tt t : TypeId} {l c : Operand} {pos : String} {af : Array Edge} (h : qal (wpList P ops Q (⟨d, .makeSlice t l c, tt, pos, af, none⟩ :: rest) a w)) : wpList P ops Q (⟨d, .makeSlice t l c, tt, pos, af, none⟩ :: rest) a w := h
theorem qbj {d : Option Tmp} {tt t e : TypeId} {l c : Operand} {pos : String} {af : Array Edge} {z : Value} {size bytes : Nat} (T : qcl P t e z size bytes)
  {kl kc : IntKind} (n : Nat) (hl : a.eval l = .int kl (n : Int)) (hc : a.eval c = .int kc (n : Int)) (hm : n ≤ 100000) (hby : bytes ≤ 1000) (hs : size ≤ 10)
  (hK : ∀ w', w' = w.alloc (.cells (madeCells z.cells (n * size)) e) → w'.ownsRow w.heap.size e size (.slice (some ⟨w.heap.size, 0, none⟩) n n) n (madeCells z.cells (n * size)).toList → wpList P ops Q rest (a.put d (.slice (some ⟨w.heap.size, 0, none⟩) n n)) w') :
  qal (wpList P ops Q (⟨d, .makeSlice t l c, tt, pos, af, none⟩ :: rest) a w) := by
 obtain ⟨i0, hi, hz0, hz1, hz2⟩ := T.info
 have hns : n * size ≤ 1000000 := Nat.le_trans (Nat.mul_le_mul hm hs) (by decide)
 have hb : bytes * n ≤ 1000 * 100000 := Nat.mul_le_mul hby hm
 refine wpList_plain rfl fun K hK' => ?_
 have hb' : (i0.bytes : Int) * (n : Int) ≤ 281474976710656 := by
  have h : ((i0.bytes * n : Nat) : Int) ≤ 281474976710656 := by rw [hz2]; omega
  rwa [Int.natCast_mul] at h
 have hrun := run_makeSlice (P := P) (w := w) t e i0 z T.under hi hz0 kl kc n n (by omega) (by omega) (by rw [hz1, Int.toNat_natCast]; omega) hb' (by omega)
 simp only [Int.toNat_natCast] at hrun
 rw [hz1] at hrun
 unfold Oper.wp
 simp [execOp, hl, hc, hrun, Result.andThen]
 refine hK' _ _ (hK _ rfl ⟨by rw [Array.length_toList, size_madeCells], .inr ⟨w.heap.size, n, _, rfl, Nat.le_refl _, heap_alloc_new w _, Nat.le_refl _, by unfold maxLen; omega, size_madeCells _ _, ?_⟩⟩)
 exact List.take_of_length_le (by rw [Array.length_toList, size_madeCells]; exact Nat.le_refl _)
end
def RetFr (w : World) (n : Nat) (x : Nat → Rat) (e : Ending) (w' : World) : Prop := ∃ v, e = .returned v ∧ Below w.heap.size w w' ∧ FrL w' w.heap.size v n x
def RetFrE (w : World) (n : Nat) (x : Nat → Rat) (e : Ending) (w' : World) : Prop := ∃ v, e = .returned (.tuple #[v, .nilIface]) ∧ Below w.heap.size w w' ∧ FrL w' w.heap.size v n x
theorem exit_any (vc : Value) (n s0 : Nat) (ms : List Mv) (dn : List Bool) (w : World) (hc : ChI w vc n s0 ms dn) (hg : GCh n s0 ms dn) :
  Calls Tryz.prog 42 #[vc] w (RetFr w n (qbt ms)) := by
 obtain ⟨mo, mc, bo, bc, rfl, hM, hB, hmc, hbc⟩ := hc
 have HG := qHd hg
 have hn10 := hg.n10
 have hl60 := hg.sm.len
 clear hg hB
 obtain ⟨W, hW⟩ : ∃ z0, z0 = w.alloc (.cells #[.int .i64 n, .int .i64 s0, .slice mo ms.length mc, .slice bo dn.length bc] 25) := ⟨_, rfl⟩
 have b_W : Below w.heap.size w W := by rw [hW]; exact qBA _ _
 have s_W : W.heap.size = w.heap.size + 1 := by rw [hW]; exact Array.size_push (xs := w.heap) _
 have hg_gc : W.heap[w.heap.size]? = some (.cells #[.int .i64 n, .int .i64 s0, .slice mo ms.length mc, .slice bo dn.length bc] 25) := (by rw [hW]; exact heap_alloc_new w _)
 have HBW := qHd (show Below w.heap.size w W from b_W)
 obtain ⟨gc, hgc⟩ : ∃ g, g = w.heap.size := ⟨_, rfl⟩
 rw [← hgc] at hg_gc
 have l_gc : w.heap.size ≤ gc ∧ gc < W.heap.size := by rw [s_W]; omega
 have G_gc := qHd hg_gc
 obtain ⟨gcx0, gcx1, gcx2, gcx3⟩ := qbn hg_gc
 rw [hW, hgc] at gcx0 gcx1 gcx2 gcx3
 clear hg_gc b_W s_W
 have HM := qHd (hM.below HBW.out); clear hM
 go_enter Tryz.func42, Tryz.ntmps42
 go_wp2_with (with_reducible refine qaw ?_)
 rw [← hW, ← hgc]
 clear hW hgc
 clear gcx0 gcx1 gcx2 gcx3
 refine qbj Tryz.ratTy n rfl rfl (by omega) (by decide) (by decide) ?_
 intro w1 hw1 ho1
 have hb1 : Below W.heap.size W w1 := by rw [hw1]; exact qBA _ _
 have hF := madeF ho1 hw1
 obtain ⟨g3, hG3⟩ : ∃ g, g = W.heap.size := ⟨_, rfl⟩
 have l3 : W.heap.size ≤ g3 := by omega
 rw [← hG3] at hF ⊢
 have hF : FrL w1 W.heap.size (.slice (some ⟨g3, 0, none⟩) n n) n (qbt (ms.take 0)) := (hF.base l3).congr (fun j _ => rfl)
 have HF := qHd hF; have HB := qHd hb1
 clear hF hb1 ho1 hw1 hG3
 obtain ⟨gcx0, gcx1, gcx2, gcx3⟩ := qbn (qab G_gc.out HB.out)
 go_wp2_with (with_reducible first | refine qah ?_ | refine qae ?_)
 clear gcx0 gcx1 gcx2 gcx3
 refine qal.mk ?_
 go_loopw [12] (fun i' wx => ∃ k : Nat, k ≤ ms.length ∧ i' = .int .i64 k ∧ Hid (FrL wx W.heap.size (.slice (some ⟨g3, 0, none⟩) n n) n (qbt (ms.take k))) ∧ Hid (Below W.heap.size W wx)) (fun i' _ => ms.length - (intOf i').toNat)
 case atStart => exact ⟨0, Nat.zero_le _, rfl, HF, HB⟩
 case round =>
  obtain ⟨k, hk, rfl, HF, HB⟩ := hrel
  obtain ⟨wo, rfl⟩ : ∃ wo : World, wo = wr := ⟨_, rfl⟩
  by_cases hlt : k < ms.length
  ·have hltz : (k : Int) < (ms.length : Int) := by omega
   obtain ⟨m, hm⟩ : ∃ m, ms[k]? = some m := ⟨ms[k], List.getElem?_eq_getElem hlt⟩
   obtain ⟨mb, moff, rfl, hmb, _, hat⟩ := (HM.out.below HB.out).at (by omega)
   obtain ⟨sm, om, nm, cm, am, mm, dm, m0, m1, m2, m3, m4, hIm⟩ := hat k m hm
   clear hat
   have hmem := List.mem_of_getElem? hm
   obtain ⟨ha1, hb2, hab, hr0⟩ := HG.out.ok.mv m hmem
   have HNX := qHd (fun i => exitS_next hm i)
   have LM := qHd (show rl m.r ≤ 100000 from Nat.le_trans (rate_rl HG.out.sm hmem) (by decide))
   have LX0 := qHd (show rl (qbt (ms.take k) m.a) ≤ 100000 from Nat.le_trans (exit_rl HG.out.sm k m.a) (by decide))
   obtain ⟨F, hFe⟩ : ∃ F, F = qbt (ms.take k) := ⟨_, rfl⟩
   rw [← hFe] at HF HNX LX0
   obtain ⟨sx, ox, nx, cx, ax, mx, dx, x0, x1, x2, hIx⟩ := HF.out.at ha1
   obtain ⟨xa, hxa⟩ : ∃ x, x = F m.a := ⟨_, rfl⟩
   rw [← hxa] at hIx LX0
   have LX := LX0
   have HXA := qHd hxa
   -- the move in a variable of its own
   obtain ⟨w2, hw2⟩ : ∃ x, x = wo.alloc (.cells #[.int .i64 (m.a : Nat), .int .i64 (m.b : Nat), .bool sm, .slice om nm cm, .slice am mm dm] 45) := ⟨_, rfl⟩
   have hb2' : Below wo.heap.size wo w2 := by rw [hw2]; exact qBA _ _
   have hx2 : w2.heap[wo.heap.size]? = some (.cells #[.int .i64 (m.a : Nat), .int .i64 (m.b : Nat), .bool sm, .slice om nm cm, .slice am mm dm] 45) := by rw [hw2]; exact heap_alloc_new _ _
   obtain ⟨gm, hgm⟩ : ∃ g, g = wo.heap.size := ⟨_, rfl⟩
   have lm : W.heap.size ≤ gm := by rw [hgm]; exact HB.out.size
   rw [← hgm] at hx2
   have HA := qHd (show ((m.a : Nat) : Int) < (n : Int) by omega)
   go_wp2_with (with_reducible first | refine qag ?_ | refine qah ?_ | refine qbb ?_ | refine qbc ?_ | refine qae ?_)
   rw [← hw2, ← hgm]
   clear hw2 hgm m0 m1 m2 m3 m4
   have CX := qHd (qax (And.intro x0 (And.intro x1 x2)) hb2'); have IX := qHd (hIx.below hb2'); have IM := qHd (hIm.below hb2')
   have HF := qHd (HF.out.below hb2'); have HB := qHd (qac HB.out (Nat.le_refl _) hb2'); have G_gm := qHd hx2
   clear hb2' hx2 x0 x1 x2 hIx hIm hxa hFe hm
   refine qal.mk ?_
   refine qaj (A := ?aaEX) (w := w2) 12 [] (by kernel_rfl) (Fl [KEq (.slice (some ⟨g3, 0, none⟩) n n), KEq (.pointer (some ⟨gm, 0, none⟩)), KEq (.int .i64 (m.a : Nat)), KEq (.slice (some ⟨g3, 0, none⟩) n n), KEq (.pointer (some ⟨gm, 0, none⟩)), KEq (.int .i64 (m.a : Nat)), KEq (.pointer (some ⟨g3, m.a * 3, none⟩)), KEq (.agg #[.bool sx, .slice ox nx cx, .slice ax mx dx]), KEq (.pointer (some ⟨gm, 2, none⟩)), KEq (.agg #[.bool sm, .slice om nm cm, .slice am mm dm]), KIs (xa + m.r), KEq (.pointer (some ⟨g3, m.a * 3, none⟩))]) (fun i => false) (by kernel_rfl) ?hqEX (qdk (qad (kEq _) (qad (kEq _) (qad (kEq _) (qad (kEq _) (qad (kEq _) (qad (kEq _) (qad (kEq _) (qad (kEq _) (qad (kEq _) (qad (kEq _) (qad (kIs _) (qad (kEq _) qdj))))))))))))) ?haEX ?stEX ?tlEX
   case hqEX =>
    intro c a d v w h
    first | (simp only [Exit.then] at h ⊢; exact h) | (simp only [Exit.inBlock, Exit.then] at h ⊢; exact h) | exact h
   case haEX =>
    intro vals
    simp only [qat, qby, if_true, Act.put, List.setIfInBounds_toArray, List.set_cons_zero, List.set_cons_succ, List.getElem?_toArray, List.getElem?_cons_zero, List.getElem?_cons_succ, Option.bind_some]
    exact rfl
   case stEX =>
    simp only [List.take_succ_cons, List.take_zero]
    refine qaa rfl rfl ?_ (qaa rfl rfl ?_ (qaa rfl rfl ?_ (qaa rfl rfl ?_ (qaa rfl rfl ?_ (qaa rfl rfl ?_ (qaa rfl rfl ?_ (qaa rfl rfl ?_ (qaa rfl rfl ?_ (qaa rfl rfl ?_ (qaa rfl rfl ?_ (qaa rfl rfl ?_ (qau))))))))))))
    ·intro vals w1 hb hd
     refine qSv (.slice (some ⟨g3, 0, none⟩) n n) (by go_simp) (qLk rfl rfl)
    ·intro vals w1 hb hd
     refine qSv (.pointer (some ⟨gm, 0, none⟩)) (by go_simp) (qLk rfl rfl)
    ·intro vals w1 hb hd
     obtain ⟨gmx0, gmx1, gmx2, gmx3, gmx4⟩ := qbz (qab G_gm.out hb)
     rw [show vals 1 = .pointer (some ⟨gm, 0, none⟩) from hd 1 (by kernel_rfl)]
     refine qSv (.int .i64 (m.a : Nat)) (by go_simp) (qLk rfl rfl)
    ·intro vals w1 hb hd
     refine qSv (.slice (some ⟨g3, 0, none⟩) n n) (by go_simp) (qLk rfl rfl)
    ·intro vals w1 hb hd
     refine qSv (.pointer (some ⟨gm, 0, none⟩)) (by go_simp) (qLk rfl rfl)
    ·intro vals w1 hb hd
     obtain ⟨gmx0, gmx1, gmx2, gmx3, gmx4⟩ := qbz (qab G_gm.out hb)
     rw [show vals 4 = .pointer (some ⟨gm, 0, none⟩) from hd 4 (by kernel_rfl)]
     refine qSv (.int .i64 (m.a : Nat)) (by go_simp) (qLk rfl rfl)
    ·intro vals w1 hb hd
     have ha1 := HA.out
     rw [show vals 3 = .slice (some ⟨g3, 0, none⟩) n n from hd 3 (by kernel_rfl)]
     rw [show vals 5 = .int .i64 (m.a : Nat) from hd 5 (by kernel_rfl)]
     refine qSv (.pointer (some ⟨g3, m.a * 3, none⟩)) (by go_simp) (qLk rfl rfl)
    ·intro vals w1 hb hd
     obtain ⟨e0, e1, e2⟩ := qax CX.out hb
     rw [show vals 6 = .pointer (some ⟨g3, m.a * 3, none⟩) from hd 6 (by kernel_rfl)]
     refine qSv (.agg #[.bool sx, .slice ox nx cx, .slice ax mx dx]) (by go_simp) (qLk rfl rfl)
    ·intro vals w1 hb hd
     refine qSv (.pointer (some ⟨gm, 2, none⟩)) (by go_simp) (qLk rfl rfl)
    ·intro vals w1 hb hd
     obtain ⟨gmx0, gmx1, gmx2, gmx3, gmx4⟩ := qbz (qab G_gm.out hb)
     rw [show vals 8 = .pointer (some ⟨gm, 2, none⟩) from hd 8 (by kernel_rfl)]
     refine qSv (.agg #[.bool sm, .slice om nm cm, .slice am mm dm]) (by go_simp) (qLk rfl rfl)
    ·intro vals w1 hb hd
     have d7 : KEq (.agg #[.bool sx, .slice ox nx cx, .slice ax mx dx]) (vals 7) w1 := hd 7 (by kernel_rfl)
     have d9 : KEq (.agg #[.bool sm, .slice om nm cm, .slice am mm dm]) (vals 9) w1 := hd 9 (by kernel_rfl)
     have HS := qHd (qcz _ xa _ m.r w1 ((IX.out.below hb).is LX.out) ((IM.out.below hb).is LM.out))
     have z7 : vals 7 = _ := d7
     rw [z7]; clear z7
     have z9 : vals 9 = _ := d9
     rw [z9]; clear z9
     refine qar (by go_simp; first | done | exact ⟨⟨rfl, rfl⟩, rfl⟩) ?_
     (with_reducible refine HS.out.mono ?_); rintro e w2 ⟨v, rfl, hb2, hn⟩
     exact ⟨v, rfl, qai hb2 hn (fun h => by cases h)⟩
    ·intro vals w1 hb hd
     have ha1 := HA.out
     rw [show vals 0 = .slice (some ⟨g3, 0, none⟩) n n from hd 0 (by kernel_rfl)]
     rw [show vals 2 = .int .i64 (m.a : Nat) from hd 2 (by kernel_rfl)]
     refine qSv (.pointer (some ⟨g3, m.a * 3, none⟩)) (by go_simp) (qLk rfl rfl)
   case tlEX =>
    intro vals w4 hb4 hf hdis
    simp only [List.drop_succ_cons, List.drop_zero]
    have z11 : vals 11 = _ := hf 11 (by decide)
    have hn : IsR w4 (vals 10) (xa + m.r) := hf 10 (by decide)
    rw [z11]
    obtain ⟨r, hr⟩ : ∃ r, r = vals 10 := ⟨_, rfl⟩
    rw [← hr] at hn ⊢
    clear z11 hf hdis hr
    obtain ⟨sz, oz, nz, cz, az, mz, dz, rfl⟩ := hn.shape
    have HF := qHd (HF.out.below hb4); have HB := qHd (qac HB.out (Nat.le_refl _) hb4)
    have IZ := qHd hn
    clear hb4 hn CX IX IM
    obtain ⟨cs, hcs, hsz⟩ := qbe HF.out
    go_wp2_with (with_reducible refine qan ?_)
    refine qba g3 (m.a * 3) [.bool sz, .slice oz nz cz, .slice az mz dz] hcs rfl rfl (by simp only [List.length_cons, List.length_nil]; omega) (by kernel_rfl) rfl ?_
    intro wz hpz
    obtain ⟨hX, hSt⟩ := HF.out.put ha1 IZ.out hpz
    have HF := qHd (show FrL wz W.heap.size (.slice (some ⟨g3, 0, none⟩) n n) n (qbt (ms.take (k + 1))) from hX.congr (fun i _ => by
     rw [HNX.out i]; unfold updR
     by_cases e : i = m.a
     ·rw [if_pos e, if_pos e, e, ← HXA.out]
     ·rw [if_neg e, if_neg e]))
    have HB := qHd (hSt.low HB.out HB.out.size l3)
    clear hX hSt hpz hcs hsz IZ
    go_wp2_with fail
    go_roundw
    case rel => exact ⟨k + 1, by omega, by go_num, HF, HB⟩
    case measure => simp [intOf]; omega
  ·have hk' : k = ms.length := by omega
   subst hk'
   go_wp2_with fail
   go_ret
   refine ⟨_, rfl, HBW.out.trans (HB.out.mono HBW.out.size), (HF.out.congr (fun j _ => by rw [List.take_length])).base HBW.out.size⟩
theorem sg_pos1 {p : Rat} (h : 0 < p) : sg p = 1 := by
 unfold sg
 rw [if_neg (by grind), if_neg (by grind)]
theorem wrapN {x : Nat} (h : x < 9223372036854775808) : IntKind.wrap .i64 (x : Int) = (x : Int) := by
 unfold IntKind.wrap
 simp [IntKind.bits, IntKind.signed]
 omega
theorem prev_at {ms : List Mv} {k : Nat} (h0 : 0 < k) (h : k ≤ ms.length) : ∃ x, ms[k - 1]? = some x := ⟨ms[k - 1], List.getElem?_eq_getElem (by omega)⟩
theorem ccheck_any (vc : Value) (n s0 : Nat) (ms : List Mv) (dn : List Bool) (w : World) (hc : ChI w vc n s0 ms dn) (hg : GCh n s0 ms dn) :
  Calls Tryz.prog 33 #[vc] w (RetV w .nilIface) := by
 obtain ⟨mo, mc, bo, bc, rfl, hM, hB, hmc, hbc⟩ := hc
 have HG := qHd hg
 have hn10 := hg.n10
 have hn0 := hg.n0
 have hl60 := hg.sm.len
 have HDL := qHd hg.dl
 clear hg
 clear hB
 have hn1 : ¬ ((n : Int) < 1) := by omega
 have hn256 : ¬ ((256 : Int) < (n : Int)) := by omega
 have hdl : (((dn.length : Nat) : Int) != (n : Int)) = false := by rw [HDL.out]; simp
 obtain ⟨W, hW⟩ : ∃ z0, z0 = w.alloc (.cells #[.int .i64 n, .int .i64 s0, .slice mo ms.length mc, .slice bo dn.length bc] 25) := ⟨_, rfl⟩
 have b_W : Below w.heap.size w W := by rw [hW]; exact qBA _ _
 have s_W : W.heap.size = w.heap.size + 1 := by rw [hW]; exact Array.size_push (xs := w.heap) _
 have hg_gc : W.heap[w.heap.size]? = some (.cells #[.int .i64 n, .int .i64 s0, .slice mo ms.length mc, .slice bo dn.length bc] 25) := (by rw [hW]; exact heap_alloc_new w _)
 have HBW := qHd (show Below w.heap.size w W from b_W)
 obtain ⟨gc, hgc⟩ : ∃ g, g = w.heap.size := ⟨_, rfl⟩
 rw [← hgc] at hg_gc
 have l_gc : w.heap.size ≤ gc ∧ gc < W.heap.size := by rw [s_W]; omega
 have G_gc := qHd hg_gc
 obtain ⟨gcx0, gcx1, gcx2, gcx3⟩ := qbn hg_gc
 rw [hW, hgc] at gcx0 gcx1 gcx2 gcx3
 clear hg_gc b_W s_W
 have HM := qHd (hM.below HBW.out); clear hM
 have HK := qHd (cstate_any n s0 s0 mo bo ms.length mc dn.length bc W HG.out.ok.st)
 go_enter Tryz.func33, Tryz.ntmps33
 go_wp2_with (with_reducible refine qag ?_)
 rw [← hW, ← hgc]
 clear hW hgc
 clear gcx0 gcx1 gcx2 gcx3
 refine qal.mk ?_
 (with_reducible refine HK.out.mono ?_); rintro e w1 ⟨rfl, hb1⟩
 have HB := qHd hb1; clear hb1 HK
 obtain ⟨gcx0, gcx1, gcx2, gcx3⟩ := qbn (qab G_gc.out HB.out)
 go_wp2_with (with_reducible first | refine qah ?_ | refine qae ?_)
 clear gcx0 gcx1 gcx2 gcx3
 refine qal.mk ?_
 go_loopw [30] (fun i' wx => ∃ k : Nat, k ≤ ms.length ∧ i' = .int .i64 k ∧ Hid (Below W.heap.size W wx)) (fun i' _ => ms.length - (intOf i').toNat)
 case atStart => exact ⟨0, Nat.zero_le _, rfl, HB⟩
 case round =>
  obtain ⟨k, hk, rfl, HB⟩ := hrel
  obtain ⟨wo, rfl⟩ : ∃ wo : World, wo = wr := ⟨_, rfl⟩
  by_cases hlt : k < ms.length
  ·have hltz : (k : Int) < (ms.length : Int) := by omega
   obtain ⟨m, hm⟩ : ∃ m, ms[k]? = some m := ⟨ms[k], List.getElem?_eq_getElem hlt⟩
   obtain ⟨mb, moff, rfl, hmb, _, hat⟩ := (HM.out.below HB.out).at (by omega)
   obtain ⟨sm, om, nm, cm, am, mm, dm, m0, m1, m2, m3, m4, hIm⟩ := hat k m hm
   have hmem := List.mem_of_getElem? hm
   obtain ⟨ha1, hb1, hab, hr0⟩ := HG.out.ok.mv m hmem
   have LM := qHd (show rl m.r ≤ 9 from rate_rl HG.out.sm hmem)
   have SG := qHd (show sg m.r = 1 from sg_pos1 hr0)
   have habz : ((m.a : Nat) : Int) ≠ ((m.b : Nat) : Int) := by omega
   have habb : ((((m.a : Nat) : Int)) == ((m.b : Nat) : Int)) = false := by rw [beq_eq_false_iff_ne]; exact habz
   have XP := qHd (fun (h0 : 0 < k) => (show ∃ (x : Mv) (sx : Bool) (ox : Option Addr) (nx cx : Nat) (ax : Option Addr) (mx dx : Nat), (x.a < m.a ∨ x.a = m.a ∧ x.b < m.b) ∧ wo.cell? ⟨mb, moff + (k - 1) * 5, none⟩ = some (.int .i64 (x.a : Nat)) ∧ wo.cell? ⟨mb, moff + (k - 1) * 5 + 1, none⟩ = some (.int .i64 (x.b : Nat)) ∧ wo.cell? ⟨mb, moff + (k - 1) * 5 + 2, none⟩ = some (.bool sx) ∧ wo.cell? ⟨mb, moff + (k - 1) * 5 + 3, none⟩ = some (.slice ox nx cx) ∧ wo.cell? ⟨mb, moff + (k - 1) * 5 + 4, none⟩ = some (.slice ax mx dx) from by
    obtain ⟨x, hx⟩ := prev_at h0 hk
    obtain ⟨sx, ox, nx, cx, ax, mx, dx, q0, q1, q2, q3, q4, _⟩ := hat (k - 1) x hx
    exact ⟨x, sx, ox, nx, cx, ax, mx, dx, HG.out.srt (k - 1) x m hx (by rw [show k - 1 + 1 = k by omega]; exact hm), q0, q1, q2, q3, q4⟩))
   clear hat hm hr0
   obtain ⟨w2, hw2, hb2, hx2⟩ := qBx3 wo (.cells #[.int .i64 (m.a : Nat), .int .i64 (m.b : Nat), .bool sm, .slice om nm cm, .slice am mm dm] 45)
   obtain ⟨gm, hgm⟩ : ∃ g, g = wo.heap.size := ⟨_, rfl⟩
   have lm : W.heap.size ≤ gm := by rw [hgm]; exact HB.out.size
   rw [← hgm] at hx2
   have G_gm := qHd hx2
   have HMB := qHd hmb
   obtain ⟨gcx0, gcx1, gcx2, gcx3⟩ := qbn (qab (qab G_gc.out HB.out) hb2)
   rw [hw2] at gcx0 gcx1 gcx2 gcx3
   obtain ⟨gmx0, gmx1, gmx2, gmx3, gmx4⟩ := qbz (hx2)
   rw [hw2, hgm] at gmx0 gmx1 gmx2 gmx3 gmx4
   have IM := qHd (hIm.below hb2)
   have HBO := HB
   have HB2 := qHd hb2
   have HB := qHd (qac HB.out (Nat.le_refl _) hb2)
   have HK := qHd (cstate_any n m.a s0 (some ⟨mb, moff, none⟩) bo ms.length mc dn.length bc w2 ha1)
   go_wp2_with (with_reducible refine qag ?_)
   rw [← hw2, ← hgm]
   clear hw2 hgm m0 m1 m2 m3 m4 hb2 hx2 hIm hmb
   clear gcx0 gcx1 gcx2 gcx3 gmx0 gmx1 gmx2 gmx3 gmx4
   refine qal.mk ?_
   (with_reducible refine HK.out.mono ?_); rintro e w3 ⟨rfl, hb3⟩
   have HBQ := qHd (qac HB.out (Nat.le_refl _) hb3)
   have G_gm := qHd (qab G_gm.out hb3); have IM := qHd (IM.out.below hb3)
   have HB3 := qHd (HB2.out.trans (hb3.mono HB2.out.size))
   clear hb3 HK HB HB2
   have HK := qHd (cstate_any n m.b s0 (some ⟨mb, moff, none⟩) bo ms.length mc dn.length bc w3 hb1)
   obtain ⟨gcx0, gcx1, gcx2, gcx3⟩ := qbn (qab G_gc.out HBQ.out)
   obtain ⟨gmx0, gmx1, gmx2, gmx3, gmx4⟩ := qbz G_gm.out
   go_wp2_with (with_reducible refine qag ?_)
   clear gcx0 gcx1 gcx2 gcx3 gmx0 gmx1 gmx2 gmx3 gmx4
   refine qal.mk ?_
   (with_reducible refine HK.out.mono ?_); rintro e w4 ⟨rfl, hb4⟩
   have HBQ := qHd (qac HBQ.out (Nat.le_refl _) hb4)
   have G_gm := qHd (qab G_gm.out hb4); have IM := qHd (IM.out.below hb4)
   have HB4 := qHd (HB3.out.trans (hb4.mono HB3.out.size))
   clear hb4 HK HB3
   have hs := valid_any _ (ng m.r) (wd (nn m.r)) (wd (Go.Proofs.YtblekfkmianmeaaGreatDoor.dn m.r)) w4 IM.out (Nat.le_trans (rl_n m.r) (Nat.le_trans LM.out (by decide))) (Nat.le_trans (dn_len m.r) (Nat.le_trans LM.out (by decide)))
   rw [show decide (Vld (ng m.r) (wd (nn m.r)) (wd (Go.Proofs.YtblekfkmianmeaaGreatDoor.dn m.r))) = true from decide_eq_true (vld_self m.r).1] at hs
   have HK := qHd hs; clear hs
   obtain ⟨gcx0, gcx1, gcx2, gcx3⟩ := qbn (qab G_gc.out HBQ.out)
   obtain ⟨gmx0, gmx1, gmx2, gmx3, gmx4⟩ := qbz G_gm.out
   go_wp2_with (with_reducible refine qag ?_)
   clear gcx0 gcx1 gcx2 gcx3 gmx0 gmx1 gmx2 gmx3 gmx4
   refine qal.mk ?_
   (with_reducible refine HK.out.mono ?_); rintro e w5 ⟨rfl, hb5⟩
   have HBQ := qHd (qac HBQ.out (Nat.le_refl _) hb5)
   have G_gm := qHd (qab G_gm.out hb5); have IM := qHd (IM.out.below hb5)
   have HB5 := qHd (HB4.out.trans (hb5.mono HB4.out.size))
   clear hb5 HK HB4
   have hs := sign_any _ m.r w5 (IM.out.is (Nat.le_trans LM.out (by decide)))
   rw [SG.out] at hs
   have HK := qHd hs; clear hs
   obtain ⟨gmx0, gmx1, gmx2, gmx3, gmx4⟩ := qbz G_gm.out
   go_wp2_with (with_reducible refine qag ?_)
   clear gmx0 gmx1 gmx2 gmx3 gmx4
   refine qal.mk ?_
   (with_reducible refine HK.out.mono ?_); rintro e w6 ⟨rfl, hb6⟩
   have HBQ := qHd (qac HBQ.out (Nat.le_refl _) hb6)
   have G_gm := qHd (qab G_gm.out hb6)
   have HB6 := qHd (HB5.out.trans (hb6.mono HB5.out.size))
   clear hb6 HK HB5 IM
   go_wp2_with (with_reducible first | refine qag ?_ | refine qah ?_ | refine qbb ?_ | refine qbc ?_ | refine qae ?_)
   refine qal.mk ?_
   by_cases h0 : 0 < k
   ·obtain ⟨x, sx, ox, nx, cx, ax, mx, dx, srt, q0, q1, q2, q3, q4⟩ := XP.out h0
    have SRT := qHd srt
    have hlb := World.block_lt_of_cell? _ _ q0
    have XC := qHd (show w6.cell? ⟨mb, moff + (k - 1) * 5, none⟩ = some (.int .i64 (x.a : Nat)) ∧ w6.cell? ⟨mb, moff + (k - 1) * 5 + 1, none⟩ = some (.int .i64 (x.b : Nat)) ∧ w6.cell? ⟨mb, moff + (k - 1) * 5 + 2, none⟩ = some (.bool sx) ∧ w6.cell? ⟨mb, moff + (k - 1) * 5 + 3, none⟩ = some (.slice ox nx cx) ∧ w6.cell? ⟨mb, moff + (k - 1) * 5 + 4, none⟩ = some (.slice ax mx dx) from
     ⟨by rw [HB6.out.cell (p := ⟨mb, moff + (k - 1) * 5, none⟩) hlb]; exact q0, by rw [HB6.out.cell (p := ⟨mb, moff + (k - 1) * 5 + 1, none⟩) hlb]; exact q1, by rw [HB6.out.cell (p := ⟨mb, moff + (k - 1) * 5 + 2, none⟩) hlb]; exact q2, by rw [HB6.out.cell (p := ⟨mb, moff + (k - 1) * 5 + 3, none⟩) hlb]; exact q3, by rw [HB6.out.cell (p := ⟨mb, moff + (k - 1) * 5 + 4, none⟩) hlb]; exact q4⟩)
    have HK1 := qHd (show (k : Int) - 1 = ((k - 1 : Nat) : Int) ∧ ((k - 1 : Nat) : Int) < (ms.length : Int) by omega)
    have hkz : (0 : Int) < (k : Int) := by omega
    clear srt q0 q1 q2 q3 q4 XP
    refine qaj (A := ?aaCP) (w := w6) 13 [] (by kernel_rfl) (Fl [KEq (.int .i64 (k : Nat)), KEq (.bool true), KEq (.bool true), KEq (.pointer (some ⟨gc, 2, none⟩)), KEq (.slice (some ⟨mb, moff, none⟩) ms.length mc), KEq (.int .i64 (k : Nat)), KEq (.int .i64 ((k - 1 : Nat) : Int)), KEq (.pointer (some ⟨mb, moff + (k - 1) * 5, none⟩)), KEq (.agg #[.int .i64 (x.a : Nat), .int .i64 (x.b : Nat), .bool sx, .slice ox nx cx, .slice ax mx dx]), KEq (.agg #[.int .i64 (m.a : Nat), .int .i64 (m.b : Nat), .bool sm, .slice om nm cm, .slice am mm dm]), KEq (.bool true), KEq (.bool false), KEq (.bool false)]) (fun i => false) (by kernel_rfl) ?hqCP (qdk (qad (kEq _) (qad (kEq _) (qad (kEq _) (qad (kEq _) (qad (kEq _) (qad (kEq _) (qad (kEq _) (qad (kEq _) (qad (kEq _) (qad (kEq _) (qad (kEq _) (qad (kEq _) (qad (kEq _) qdj)))))))))))))) ?haCP ?stCP ?tlCP
    case hqCP =>
     intro c a d v w h
     first | (simp only [Exit.then] at h ⊢; exact h) | (simp only [Exit.inBlock, Exit.then] at h ⊢; exact h) | exact h
    case haCP =>
     intro vals
     simp only [qat, qby, if_true, Act.put, List.setIfInBounds_toArray, List.set_cons_zero, List.set_cons_succ, List.getElem?_toArray, List.getElem?_cons_zero, List.getElem?_cons_succ, Option.bind_some]
     exact rfl
    case stCP =>
     simp only [List.take_succ_cons, List.take_zero]
     refine qaa rfl rfl ?_ (qaa rfl rfl ?_ (qaa rfl rfl ?_ (qbg rfl ?_ (qbg rfl ?_ (qbg rfl ?_ (qbg rfl ?_ (qbg rfl ?_ (qbg rfl ?_ (qbg rfl ?_ (qbg rfl ?_ (qbg rfl ?_ (qaa rfl rfl ?_ (qau)))))))))))))
     ·intro vals w1 hb hd
      refine qSv (.int .i64 (k : Nat)) (by go_simp) (qLk rfl rfl)
     ·intro vals w1 hb hd
      rw [show vals 0 = .int .i64 (k : Nat) from hd 0 (by kernel_rfl)]
      refine qSv (.bool true) (by go_simp) (qLk rfl rfl)
     ·intro vals w1 hb hd
      rw [show vals 1 = .bool true from hd 1 (by kernel_rfl)]
      refine qSv (.bool true) (by go_simp) (qLk rfl rfl)
     ·intro vals w1 hb hd
      refine qdi (qdg rfl rfl (congrArg some (show KEq (.bool true) (vals 2) w1 from hd 2 (by kernel_rfl))) rfl) ?_
      refine qSv (.pointer (some ⟨gc, 2, none⟩)) (by go_simp) (qLk rfl rfl)
     ·intro vals w1 hb hd
      refine qdi (qdg rfl rfl (congrArg some (show KEq (.bool true) (vals 2) w1 from hd 2 (by kernel_rfl))) rfl) ?_
      obtain ⟨gcx0, gcx1, gcx2, gcx3⟩ := qbn (qab G_gc.out (HBQ.out.step hb))
      rw [show vals 3 = .pointer (some ⟨gc, 2, none⟩) from hd 3 (by kernel_rfl)]
      refine qSv (.slice (some ⟨mb, moff, none⟩) ms.length mc) (by go_simp) (qLk rfl rfl)
     ·intro vals w1 hb hd
      refine qdi (qdg rfl rfl (congrArg some (show KEq (.bool true) (vals 2) w1 from hd 2 (by kernel_rfl))) rfl) ?_
      refine qSv (.int .i64 (k : Nat)) (by go_simp) (qLk rfl rfl)
     ·intro vals w1 hb hd
      refine qdi (qdg rfl rfl (congrArg some (show KEq (.bool true) (vals 2) w1 from hd 2 (by kernel_rfl))) rfl) ?_
      rw [show vals 5 = .int .i64 (k : Nat) from hd 5 (by kernel_rfl)]
      refine qSv (.int .i64 ((k - 1 : Nat) : Int)) (by go_simp; (try rw [HK1.out.1]); exact wrapN (by omega)) (qLk rfl rfl)
     ·intro vals w1 hb hd
      refine qdi (qdg rfl rfl (congrArg some (show KEq (.bool true) (vals 2) w1 from hd 2 (by kernel_rfl))) rfl) ?_
      have hk1 := HK1.out
      rw [show vals 4 = .slice (some ⟨mb, moff, none⟩) ms.length mc from hd 4 (by kernel_rfl)]
      rw [show vals 6 = .int .i64 ((k - 1 : Nat) : Int) from hd 6 (by kernel_rfl)]
      refine qSv (.pointer (some ⟨mb, moff + (k - 1) * 5, none⟩)) (by go_simp) (qLk rfl rfl)
     ·intro vals w1 hb hd
      refine qdi (qdg rfl rfl (congrArg some (show KEq (.bool true) (vals 2) w1 from hd 2 (by kernel_rfl))) rfl) ?_
      obtain ⟨e0, e1, e2, e3, e4⟩ := XC.out
      have lbx := World.block_lt_of_cell? _ _ e0
      rw [← hb.cell (p := ⟨mb, moff + (k - 1) * 5, none⟩) lbx] at e0
      rw [← hb.cell (p := ⟨mb, moff + (k - 1) * 5 + 1, none⟩) lbx] at e1
      rw [← hb.cell (p := ⟨mb, moff + (k - 1) * 5 + 2, none⟩) lbx] at e2
      rw [← hb.cell (p := ⟨mb, moff + (k - 1) * 5 + 3, none⟩) lbx] at e3
      rw [← hb.cell (p := ⟨mb, moff + (k - 1) * 5 + 4, none⟩) lbx] at e4
      rw [show vals 7 = .pointer (some ⟨mb, moff + (k - 1) * 5, none⟩) from hd 7 (by kernel_rfl)]
      refine qSv (.agg #[.int .i64 (x.a : Nat), .int .i64 (x.b : Nat), .bool sx, .slice ox nx cx, .slice ax mx dx]) (by go_simp) (qLk rfl rfl)
     ·intro vals w1 hb hd
      refine qdi (qdg rfl rfl (congrArg some (show KEq (.bool true) (vals 2) w1 from hd 2 (by kernel_rfl))) rfl) ?_
      obtain ⟨gmx0, gmx1, gmx2, gmx3, gmx4⟩ := qbz (qab G_gm.out hb)
      refine qSv (.agg #[.int .i64 (m.a : Nat), .int .i64 (m.b : Nat), .bool sm, .slice om nm cm, .slice am mm dm]) (by go_simp) (qLk rfl rfl)
     ·intro vals w1 hb hd
      refine qdi (qdg rfl rfl (congrArg some (show KEq (.bool true) (vals 2) w1 from hd 2 (by kernel_rfl))) rfl) ?_
      have d8 : KEq (.agg #[.int .i64 (x.a : Nat), .int .i64 (x.b : Nat), .bool sx, .slice ox nx cx, .slice ax mx dx]) (vals 8) w1 := hd 8 (by kernel_rfl)
      have d9 : KEq (.agg #[.int .i64 (m.a : Nat), .int .i64 (m.b : Nat), .bool sm, .slice om nm cm, .slice am mm dm]) (vals 9) w1 := hd 9 (by kernel_rfl)
      have HS2 := qHd (cbefore_any x m sx sm ox om ax am nx cx mx dx nm cm mm dm w1 SRT.out)
      rw [show vals 8 = _ from d8, show vals 9 = _ from d9]
      refine qar (by go_simp; first | done | exact ⟨⟨rfl, rfl⟩, rfl⟩) ?_
      (with_reducible refine HS2.out.mono ?_); rintro e w2 ⟨rfl, hb2⟩
      exact ⟨_, rfl, qai hb2 rfl (fun h => by cases h)⟩
     ·intro vals w1 hb hd
      refine qdi (qdg rfl rfl (congrArg some (show KEq (.bool true) (vals 2) w1 from hd 2 (by kernel_rfl))) rfl) ?_
      rw [show vals 10 = .bool true from hd 10 (by kernel_rfl)]
      refine qSv (.bool false) (by go_simp) (qLk rfl rfl)
     ·intro vals w1 hb hd
      rw [show vals 2 = .bool true from hd 2 (by kernel_rfl)]
      rw [show vals 11 = .bool false from hd 11 (by kernel_rfl)]
      refine qSv (.bool false) (by go_simp) (qLk rfl rfl)
    case tlCP =>
     intro vals w7 hb7 hf hdis
     simp only [List.drop_succ_cons, List.drop_zero]
     have z12 : vals 12 = _ := hf 12 (by decide)
     rw [z12]
     clear z12 hf hdis
     have HBQ := qHd (qac HBQ.out (Nat.le_refl _) hb7)
     clear hb7
     go_wp2_with fail
     go_roundw
     case rel => exact ⟨k + 1, by omega, by go_num, HBQ⟩
     case measure => simp [intOf]; omega
   ·have hk0 : k = 0 := by omega
    subst hk0
    refine qaj (A := ?aaCQ) (w := w6) 13 [] (by kernel_rfl) (Fl [KEq (.int .i64 (0 : Nat)), KEq (.bool false), KEq (.bool false), KAny, KAny, KAny, KAny, KAny, KAny, KAny, KAny, KAny, KEq (.bool false)]) (fun i => false) (by kernel_rfl) ?hqCQ (qdk (qad (kEq _) (qad (kEq _) (qad (kEq _) (qad (kAny) (qad (kAny) (qad (kAny) (qad (kAny) (qad (kAny) (qad (kAny) (qad (kAny) (qad (kAny) (qad (kAny) (qad (kEq _) qdj)))))))))))))) ?haCQ ?stCQ ?tlCQ
    case hqCQ =>
     intro c a d v w h
     first | (simp only [Exit.then] at h ⊢; exact h) | (simp only [Exit.inBlock, Exit.then] at h ⊢; exact h) | exact h
    case haCQ =>
     intro vals
     simp only [qat, qby, if_true, Act.put, List.setIfInBounds_toArray, List.set_cons_zero, List.set_cons_succ, List.getElem?_toArray, List.getElem?_cons_zero, List.getElem?_cons_succ, Option.bind_some]
     exact rfl
    case stCQ =>
     simp only [List.take_succ_cons, List.take_zero]
     refine qaa rfl rfl ?_ (qaa rfl rfl ?_ (qaa rfl rfl ?_ (qbg rfl ?_ (qbg rfl ?_ (qbg rfl ?_ (qbg rfl ?_ (qbg rfl ?_ (qbg rfl ?_ (qbg rfl ?_ (qbg rfl ?_ (qbg rfl ?_ (qaa rfl rfl ?_ (qau)))))))))))))
     ·intro vals w1 hb hd
      refine qSv (.int .i64 (0 : Nat)) (by go_simp) (qLk rfl rfl)
     ·intro vals w1 hb hd
      rw [show vals 0 = .int .i64 (0 : Nat) from hd 0 (by kernel_rfl)]
      refine qSv (.bool false) (by go_simp) (qLk rfl rfl)
     ·intro vals w1 hb hd
      rw [show vals 1 = .bool false from hd 1 (by kernel_rfl)]
      refine qSv (.bool false) (by go_simp) (qLk rfl rfl)
     ·exact fun vals w1 _ hd => stepG_no (qck rfl rfl (congrArg some (show KEq (.bool false) (vals 2) w1 from hd 2 (by kernel_rfl))) rfl) (qLk trivial rfl)
     ·exact fun vals w1 _ hd => stepG_no (qck rfl rfl (congrArg some (show KEq (.bool false) (vals 2) w1 from hd 2 (by kernel_rfl))) rfl) (qLk trivial rfl)
     ·exact fun vals w1 _ hd => stepG_no (qck rfl rfl (congrArg some (show KEq (.bool false) (vals 2) w1 from hd 2 (by kernel_rfl))) rfl) (qLk trivial rfl)
     ·exact fun vals w1 _ hd => stepG_no (qck rfl rfl (congrArg some (show KEq (.bool false) (vals 2) w1 from hd 2 (by kernel_rfl))) rfl) (qLk trivial rfl)
     ·exact fun vals w1 _ hd => stepG_no (qck rfl rfl (congrArg some (show KEq (.bool false) (vals 2) w1 from hd 2 (by kernel_rfl))) rfl) (qLk trivial rfl)
     ·exact fun vals w1 _ hd => stepG_no (qck rfl rfl (congrArg some (show KEq (.bool false) (vals 2) w1 from hd 2 (by kernel_rfl))) rfl) (qLk trivial rfl)
     ·exact fun vals w1 _ hd => stepG_no (qck rfl rfl (congrArg some (show KEq (.bool false) (vals 2) w1 from hd 2 (by kernel_rfl))) rfl) (qLk trivial rfl)
     ·exact fun vals w1 _ hd => stepG_no (qck rfl rfl (congrArg some (show KEq (.bool false) (vals 2) w1 from hd 2 (by kernel_rfl))) rfl) (qLk trivial rfl)
     ·exact fun vals w1 _ hd => stepG_no (qck rfl rfl (congrArg some (show KEq (.bool false) (vals 2) w1 from hd 2 (by kernel_rfl))) rfl) (qLk trivial rfl)
     ·intro vals w1 hb hd
      rw [show vals 2 = .bool false from hd 2 (by kernel_rfl)]
      refine qSv (.bool false) (by go_simp) (qLk rfl rfl)
    case tlCQ =>
     intro vals w7 hb7 hf hdis
     simp only [List.drop_succ_cons, List.drop_zero]
     have z12 : vals 12 = _ := hf 12 (by decide)
     rw [z12]
     clear z12 hf hdis
     have HBQ := qHd (qac HBQ.out (Nat.le_refl _) hb7)
     clear hb7
     go_wp2_with fail
     go_roundw
     case rel => exact ⟨1, by omega, by go_num, HBQ⟩
     case measure => simp [intOf]; omega
  ·have hk' : k = ms.length := by omega
   subst hk'
   go_wp2_with fail
   go_ret
   exact ⟨rfl, HBW.out.trans (HB.out.mono HBW.out.size)⟩
theorem cexit_any (vc : Value) (n s0 : Nat) (ms : List Mv) (dn : List Bool) (w : World) (hc : ChI w vc n s0 ms dn) (hg : GCh n s0 ms dn) :
  Calls Tryz.prog 20 #[vc] w (RetFrE w n (qbt ms)) := by
 have HC := qHd hc
 obtain ⟨mo, mc, bo, bc, rfl, hM, hB, hmc, hbc⟩ := hc
 have HG := qHd hg
 have hn10 := hg.n10
 have hn0 := hg.n0
 have hl60 := hg.sm.len
 have HDL := qHd hg.dl
 clear hg
 clear hM hB
 obtain ⟨W, hW⟩ : ∃ z0, z0 = w.alloc (.cells #[.int .i64 n, .int .i64 s0, .slice mo ms.length mc, .slice bo dn.length bc] 25) := ⟨_, rfl⟩
 have b_W : Below w.heap.size w W := by rw [hW]; exact qBA _ _
 have s_W : W.heap.size = w.heap.size + 1 := by rw [hW]; exact Array.size_push (xs := w.heap) _
 have hg_gc : W.heap[w.heap.size]? = some (.cells #[.int .i64 n, .int .i64 s0, .slice mo ms.length mc, .slice bo dn.length bc] 25) := (by rw [hW]; exact heap_alloc_new w _)
 have HBW := qHd (show Below w.heap.size w W from b_W)
 obtain ⟨gc, hgc⟩ : ∃ g, g = w.heap.size := ⟨_, rfl⟩
 rw [← hgc] at hg_gc
 have l_gc : w.heap.size ≤ gc ∧ gc < W.heap.size := by rw [s_W]; omega
 have G_gc := qHd hg_gc
 obtain ⟨gcx0, gcx1, gcx2, gcx3⟩ := qbn hg_gc
 rw [hW, hgc] at gcx0 gcx1 gcx2 gcx3
 clear hg_gc b_W s_W
 have HK := qHd (ccheck_any _ n s0 ms dn W (HC.out.below HBW.out) HG.out)
 go_enter Tryz.func20, Tryz.ntmps20
 go_wp2_with (with_reducible refine qag ?_)
 rw [← hW, ← hgc]
 clear hW hgc
 clear gcx0 gcx1 gcx2 gcx3
 refine qal.mk ?_
 (with_reducible refine HK.out.mono ?_); rintro e w1 ⟨rfl, hb1⟩
 have HB := qHd hb1; clear hb1 HK
 obtain ⟨gcx0, gcx1, gcx2, gcx3⟩ := qbn (qab G_gc.out HB.out)
 have HB1 := qHd (HBW.out.trans (HB.out.mono HBW.out.size))
 have HK := qHd (exit_any _ n s0 ms dn w1 (HC.out.below HB1.out) HG.out)
 go_wp2_with (with_reducible refine qag ?_)
 clear gcx0 gcx1 gcx2 gcx3
 refine qal.mk ?_
 (with_reducible refine HK.out.mono ?_); rintro e w2 ⟨v, rfl, hb2, hF⟩
 have HF := qHd hF; have HB2 := qHd (HB1.out.trans (hb2.mono HB1.out.size))
 have L1 := qHd HB1.out.size
 clear hF hb2 HK
 go_wp2_with fail
 go_ret2
 exact ⟨_, rfl, HB2.out, HF.out.base L1.out⟩
def RetZ (P : Prop) (w : World) (e : Ending) (w' : World) : Prop := ∃ z : Int, e = .returned (.int .i64 z) ∧ Below w.heap.size w w' ∧ (z = 0 → P)
theorem rchain_any (vc : Value) (st s0 : Int) (ms : List MvR) (dn : List Bool) (w : World) (hc : ChR w vc st s0 ms dn) (hs : SmallR ms) (h10 : st ≤ 10) :
  Calls Tryz.prog 18 #[vc] w (RetZ (GoodR st s0 ms dn) w) := by
 obtain ⟨mo, mc, bo, bc, rfl, hM, hB, hmc, hbc, hi1, hi2⟩ := hc
 have HS := qHd hs
 have hl60 := hs.len
 clear hs hB
 have hn256 : ¬ (256 : Int) < st := by omega
 obtain ⟨W, hW⟩ : ∃ z0, z0 = w.alloc (.cells #[.int .i64 st, .int .i64 s0, .slice mo ms.length mc, .slice bo dn.length bc] 25) := ⟨_, rfl⟩
 have b_W : Below w.heap.size w W := by rw [hW]; exact qBA _ _
 have s_W : W.heap.size = w.heap.size + 1 := by rw [hW]; exact Array.size_push (xs := w.heap) _
 have hg_gc : W.heap[w.heap.size]? = some (.cells #[.int .i64 st, .int .i64 s0, .slice mo ms.length mc, .slice bo dn.length bc] 25) := (by rw [hW]; exact heap_alloc_new w _)
 have HBW := qHd (show Below w.heap.size w W from b_W)
 obtain ⟨gc, hgc⟩ : ∃ g, g = w.heap.size := ⟨_, rfl⟩
 rw [← hgc] at hg_gc
 have l_gc : w.heap.size ≤ gc ∧ gc < W.heap.size := by rw [s_W]; omega
 have G_gc := qHd hg_gc
 obtain ⟨gcx0, gcx1, gcx2, gcx3⟩ := qbn hg_gc
 rw [hW, hgc] at gcx0 gcx1 gcx2 gcx3
 clear hg_gc b_W s_W
 have HM := qHd (hM.below HBW.out); clear hM
 go_enter Tryz.func18, Tryz.ntmps18
 by_cases t1 : st < 1
 ·go_wp2_with fail
  go_ret
  rw [← hW]; exact ⟨3, rfl, HBW.out, fun h => absurd h (by decide)⟩
 by_cases t2 : (((dn.length : Nat) : Int) != st) = true
 ·go_wp2_with fail
  go_ret
  rw [← hW]; exact ⟨11, rfl, HBW.out, fun h => absurd h (by decide)⟩
 rw [Bool.not_eq_true] at t2
 by_cases t3 : s0 < 0
 ·go_wp2_with fail
  go_ret
  rw [← hW]; exact ⟨10, rfl, HBW.out, fun h => absurd h (by decide)⟩
 by_cases t4 : st ≤ s0
 ·go_wp2_with fail
  go_ret
  rw [← hW]; exact ⟨10, rfl, HBW.out, fun h => absurd h (by decide)⟩
 have TT := qHd (And.intro t1 (And.intro t2 (And.intro t3 t4)))
 go_wp2_with (with_reducible first | refine qah ?_ | refine qae ?_)
 rw [← hW, ← hgc]
 clear hW hgc
 clear gcx0 gcx1 gcx2 gcx3
 clear t1 t2 t3 t4
 refine qal.mk ?_
 go_loopw [35] (fun i' wx => ∃ k : Nat, k ≤ ms.length ∧ i' = .int .i64 k ∧ Hid (Below W.heap.size W wx) ∧ Hid (∀ (j : Nat) x, j < k → ms[j]? = some x → GoodM st x) ∧ Hid (∀ (j : Nat) x y, j + 1 < k → ms[j]? = some x → ms[j + 1]? = some y → ltR x y)) (fun i' _ => ms.length - (intOf i').toNat)
 case atStart => exact ⟨0, Nat.zero_le _, rfl, qHd (Below.refl _ _), qHd (fun j x h => absurd h (Nat.not_lt_zero _)), qHd (fun j x y h => absurd h (Nat.not_lt_zero _))⟩
 case round =>
  obtain ⟨k, hk, rfl, HB, HG, HO⟩ := hrel
  obtain ⟨wo, rfl⟩ : ∃ wo : World, wo = wr := ⟨_, rfl⟩
  by_cases hlt : k < ms.length
  ·have hltz : (k : Int) < (ms.length : Int) := by omega
   obtain ⟨m, hm⟩ : ∃ m, ms[k]? = some m := ⟨ms[k], List.getElem?_eq_getElem hlt⟩
   obtain ⟨mb, moff, rfl, hmb, _, hat⟩ := (HM.out.below HB.out).at (by omega)
   obtain ⟨om, cm, am, dm, m0, m1, m2, m3, m4, hp, hq, hA⟩ := hat k m hm
   have hmem := List.mem_of_getElem? hm
   have hone := HS.out.one m hmem
   obtain ⟨w2, hw2, hb2, gm, hgm, hx2⟩ := qBx5 wo (.cells #[.int .i64 m.a, .int .i64 m.b, .bool m.s, .slice om m.p.length cm, .slice am m.q.length dm] 45)
   have G_gm := qHd hx2
   have HMB := qHd hmb
   obtain ⟨gcx0, gcx1, gcx2, gcx3⟩ := qbn (qab (qab G_gc.out HB.out) hb2)
   rw [hw2] at gcx0 gcx1 gcx2 gcx3
   obtain ⟨gmx0, gmx1, gmx2, gmx3, gmx4⟩ := qbz (hx2)
   rw [hw2, hgm] at gmx0 gmx1 gmx2 gmx3 gmx4
   have HP := qHd (hp.below hb2); have HQ := qHd (hq.below hb2)
   have HAT := qHd hat; have HB2 := qHd hb2; have HMM := qHd hm; have HA := qHd hA
   clear hat hb2 hx2 hmb hp hq hm hmem hA
   by_cases t1 : m.a < 0
   ·go_wp2_with fail
    go_ret
    exact ⟨10, rfl, (HBW.out.trans ((qac HB.out (Nat.le_refl _) ((Below.refl _ _).alloc (Nat.le_refl _) _)).mono HBW.out.size)), fun h => absurd h (by decide)⟩
   by_cases t2 : st ≤ m.a
   ·go_wp2_with fail
    go_ret
    exact ⟨10, rfl, (HBW.out.trans ((qac HB.out (Nat.le_refl _) ((Below.refl _ _).alloc (Nat.le_refl _) _)).mono HBW.out.size)), fun h => absurd h (by decide)⟩
   by_cases t3 : m.b < 0
   ·go_wp2_with fail
    go_ret
    exact ⟨10, rfl, (HBW.out.trans ((qac HB.out (Nat.le_refl _) ((Below.refl _ _).alloc (Nat.le_refl _) _)).mono HBW.out.size)), fun h => absurd h (by decide)⟩
   by_cases t4 : st ≤ m.b
   ·go_wp2_with fail
    go_ret
    exact ⟨10, rfl, (HBW.out.trans ((qac HB.out (Nat.le_refl _) ((Below.refl _ _).alloc (Nat.le_refl _) _)).mono HBW.out.size)), fun h => absurd h (by decide)⟩
   by_cases t5 : (m.a == m.b) = true
   ·go_wp2_with fail
    go_ret
    exact ⟨2, rfl, (HBW.out.trans ((qac HB.out (Nat.le_refl _) ((Below.refl _ _).alloc (Nat.le_refl _) _)).mono HBW.out.size)), fun h => absurd h (by decide)⟩
   rw [Bool.not_eq_true] at t5
   have TM := qHd (And.intro t1 (And.intro t2 (And.intro t3 (And.intro t4 t5))))
   have hv := rvalid_any _ m.s m.p m.q w2 ⟨_, _, rfl, HP.out, HQ.out⟩ (by omega) (by omega)
   have HK := qHd hv; clear hv
   go_wp2_with (with_reducible refine qag ?_)
   rw [← hw2, ← hgm]
   clear hw2 hgm m0 m1 m2 m3 m4 t1 t2 t3 t4 t5
   clear gcx0 gcx1 gcx2 gcx3 gmx0 gmx1 gmx2 gmx3 gmx4
   refine qal.mk ?_
   (with_reducible refine HK.out.mono ?_); rintro e w3 ⟨rfl, hb3⟩
   have HB3 := qHd (HB2.out.trans (hb3.mono HB2.out.size))
   have HB := qHd (qac HB.out (Nat.le_refl _) HB3.out)
   have G_gm := qHd (qab G_gm.out hb3); have HP := qHd (HP.out.below hb3); have HQ := qHd (HQ.out.below hb3)
   clear hb3 HK HB2
   obtain ⟨gcx0, gcx1, gcx2, gcx3⟩ := qbn (qab G_gc.out HB.out)
   obtain ⟨gmx0, gmx1, gmx2, gmx3, gmx4⟩ := qbz G_gm.out
   by_cases hvl : Vld m.s m.p m.q
   ·rw [decide_eq_true hvl]
    have HVL := qHd hvl; clear hvl
    have hu1 : U32 m.p := by obtain ⟨_, _, _, _, _, _, _, h⟩ := HP.out; exact h
    have hu2 : U32 m.q := by obtain ⟨_, _, _, _, _, _, _, h⟩ := HQ.out; exact h
    have hrl := rl_rq (s := m.s) hu1 hu2 hone.1 hone.2.1 (Nat.le_refl 1)
    have hIR : IsR w3 (.agg #[.bool m.s, .slice om m.p.length cm, .slice am m.q.length dm]) (rq m.s m.p m.q) := by
     obtain ⟨e1, e2, e3⟩ := qde hu1 hu2 HVL.out
     show RatV w3 _ (ng (rq m.s m.p m.q)) (wd (nn (rq m.s m.p m.q))) (wd (Go.Proofs.YtblekfkmianmeaaGreatDoor.dn (rq m.s m.p m.q)))
     rw [← e1, ← e2, ← e3]
     exact ⟨_, _, rfl, HP.out, HQ.out⟩
    have hv := rsign_any _ (rq m.s m.p m.q) w3 (hIR.is (Nat.le_trans hrl (by decide)))
    obtain ⟨z, hz⟩ : ∃ z, z = sg (rq m.s m.p m.q) := ⟨_, rfl⟩
    rw [← hz] at hv
    have HK := qHd hv; clear hv hIR hrl hu1 hu2
    have HZ := qHd hz; clear hz
    go_wp2_with (with_reducible refine qag ?_)
    clear gcx0 gcx1 gcx2 gcx3 gmx0 gmx1 gmx2 gmx3 gmx4
    refine qal.mk ?_
    (with_reducible refine HK.out.mono ?_); rintro e w4 ⟨rfl, hb4⟩
    have HB4 := qHd (HB3.out.trans (hb4.mono HB3.out.size))
    have HB := qHd (qac HB.out (Nat.le_refl _) hb4)
    have G_gm := qHd (qab G_gm.out hb4)
    clear hb4 HK HB3 HP HQ
    by_cases t6 : z ≤ 0
    ·go_wp2_with fail
     go_ret
     exact ⟨3, rfl, HBW.out.trans (HB.out.mono HBW.out.size), fun h => absurd h (by decide)⟩
    have hgood : GoodM st m := by
     obtain ⟨t1, t2, t3, t4, t5⟩ := TM.out
     refine ⟨by omega, by omega, by omega, by omega, fun e => ?_, HVL.out, ?_⟩
     ·rw [e] at t5; simp at t5
     ·by_cases q : 0 < rq m.s m.p m.q
      ·exact q
      ·have := HZ.out
       unfold sg at this
       split at this <;> first | omega | (split at this <;> first | omega | grind)
    have HGM := qHd hgood
    clear hgood HVL TM
    go_wp2_with (with_reducible first | refine qag ?_ | refine qah ?_ | refine qbb ?_ | refine qbc ?_ | refine qae ?_)
    clear t6
    refine qal.mk ?_
    obtain ⟨gcx0, gcx1, gcx2, gcx3⟩ := qbn (qab G_gc.out HB.out)
    obtain ⟨gmx0, gmx1, gmx2, gmx3, gmx4⟩ := qbz G_gm.out
    have NEXT : (0 < k → ∀ x, ms[k - 1]? = some x → ltR x m) → (∀ (j : Nat) x, j < k + 1 → ms[j]? = some x → GoodM st x) ∧ (∀ (j : Nat) x y, j + 1 < k + 1 → ms[j]? = some x → ms[j + 1]? = some y → ltR x y) := by
     intro hlast
     refine ⟨fun j x hj hx => ?_, fun j x y hj hx hy => ?_⟩
     ·by_cases e : j = k
      ·rw [e, HMM.out] at hx; cases hx; exact HGM.out
      ·exact HG.out j x (by omega) hx
     ·by_cases e : j + 1 = k
      ·rw [e, HMM.out] at hy; cases hy
       exact hlast (by omega) x (by rw [show k - 1 = j by omega]; exact hx)
      ·exact HO.out j x y (by omega) hx hy
    by_cases h0 : 0 < k
    ·obtain ⟨x, hx⟩ : ∃ x, ms[k - 1]? = some x := ⟨ms[k - 1], List.getElem?_eq_getElem (by omega)⟩
     obtain ⟨i, hi⟩ : ∃ i : Nat, i = k - 1 := ⟨_, rfl⟩
     obtain ⟨ox, cx, ax, dx, q0, q1, _⟩ := HAT.out (k - 1) x hx
     have hkz : (0 : Int) < (k : Int) := by omega
     have hki : (k : Int) - 1 = (i : Int) := by omega
     have hil : (i : Int) < (ms.length : Int) := by omega
     have hlb := World.block_lt_of_cell? _ _ q0
     have x0 : w4.cell? ⟨mb, moff + i * 5, none⟩ = some (.int .i64 x.a) := by rw [hi, HB4.out.cell (p := ⟨mb, moff + (k - 1) * 5, none⟩) hlb]; exact q0
     have x1 : w4.cell? ⟨mb, moff + i * 5 + 1, none⟩ = some (.int .i64 x.b) := by rw [hi, HB4.out.cell (p := ⟨mb, moff + (k - 1) * 5 + 1, none⟩) hlb]; exact q1
     have HX := qHd (And.intro hx hi)
     clear hx hi q0 q1 hlb
     have FIN : ltR x m → (∀ (j : Nat) x, j < k + 1 → ms[j]? = some x → GoodM st x) ∧ (∀ (j : Nat) x y, j + 1 < k + 1 → ms[j]? = some x → ms[j + 1]? = some y → ltR x y) := fun h => NEXT (fun _ y hy => by
      rw [HX.out.1] at hy; cases hy; exact h)
     have HF := qHd FIN; clear FIN NEXT
     by_cases u1 : m.a < x.a
     ·go_quiet (fail)
      go_wp2_with fail
      go_ret
      exact ⟨13, rfl, HBW.out.trans ((qap HB.out _).mono HBW.out.size), fun h => absurd h (by decide)⟩
     ·by_cases u2 : (m.a == x.a) = true
      ·by_cases u3 : m.b ≤ x.b
       ·go_quiet (fail)
        go_wp2_with fail
        go_ret
        exact ⟨13, rfl, HBW.out.trans ((qap HB.out _).mono HBW.out.size), fun h => absurd h (by decide)⟩
       ·have hh := HF.out (.inr ⟨by rw [beq_iff_eq] at u2; exact u2.symm, by omega⟩)
        have HH := qHd hh; clear hh HF
        go_quiet (fail)
        go_wp2_with fail
        go_roundw
        case rel => exact ⟨k + 1, by omega, by go_num, qHd (qap HB.out _), qHd HH.out.1, qHd HH.out.2⟩
        case measure => simp [intOf]; omega
      ·rw [Bool.not_eq_true] at u2
       have hh := HF.out (.inl (by rw [beq_eq_false_iff_ne] at u2; omega))
       have HH := qHd hh; clear hh HF
       go_quiet (fail)
       go_wp2_with fail
       go_roundw
       case rel => exact ⟨k + 1, by omega, by go_num, qHd (qap HB.out _), qHd HH.out.1, qHd HH.out.2⟩
       case measure => simp [intOf]; omega
    ·have hk0 : k = 0 := by omega
     have HH := qHd (NEXT (fun h => absurd h h0)); clear NEXT
     have hkz : ¬ (0 : Int) < (k : Int) := by omega
     go_quiet (fail)
     go_wp2_with fail
     go_roundw
     case rel => exact ⟨k + 1, by omega, by go_num, qHd (qap HB.out _), qHd HH.out.1, qHd HH.out.2⟩
     case measure => simp [intOf]; omega
   ·rw [decide_eq_false hvl]
    go_wp2_with fail
    go_ret
    exact ⟨3, rfl, HBW.out.trans (HB.out.mono HBW.out.size), fun h => absurd h (by decide)⟩
  ·have hk' : k = ms.length := by omega
   have hg : GoodR st s0 ms dn := by
    obtain ⟨t1, t2, t3, t4⟩ := TT.out
    refine ⟨by omega, by rw [bne_eq_false_iff_eq] at t2; exact t2, by omega, by omega, fun x hx => ?_, fun j x y hx hy => ?_⟩
    ·obtain ⟨j, hj⟩ := List.getElem?_of_mem hx
     have hjl := (List.getElem?_eq_some_iff.1 hj).1
     exact HG.out j x (by omega) hj
    ·have hjl := (List.getElem?_eq_some_iff.1 hy).1
     exact HO.out j x y (by omega) hx hy
   have HGG := qHd hg; clear hg
   subst hk'
   go_wp2_with fail
   go_ret
   exact ⟨0, rfl, HBW.out.trans (HB.out.mono HBW.out.size), fun _ => HGG.out⟩
def RetFew (P : Prop) (w : World) (e : Ending) (w' : World) : Prop := ∃ b : Bool, e = .returned (.bool b) ∧ Below w.heap.size w w' ∧ (b = true → P)
def oneW (L : Nat) (m : MvR) : Prop := m.p.length ≤ 1 ∧ m.q.length ≤ 1 ∧ (6 < L → m.q.length = 1 → gd m.q 0 < 16)
theorem next_one {L k : Nat} {ms : List MvR} {m : MvR} (h : ∀ (j : Nat) x, j < k → ms[j]? = some x → oneW L x) (hm : ms[k]? = some m) (h1 : oneW L m) : ∀ (j : Nat) x, j < k + 1 → ms[j]? = some x → oneW L x := by
 intro j x hj hx
 by_cases e : j = k
 ·rw [e, hm] at hx; cases hx; exact h1
 ·exact h j x (by omega) hx
theorem few54_any (vc : Value) (st s0 : Int) (ms : List MvR) (dn : List Bool) (w : World) (hc : ChR w vc st s0 ms dn) :
  Calls Tryz.prog 5 #[vc] w (RetFew (GoodR st s0 ms dn ∧ SmallR ms ∧ st ≤ 10) w) := by
 have HC := qHd hc
 obtain ⟨mo, mc, bo, bc, rfl, hM, hB, hmc, hbc, hi1, hi2⟩ := hc
 clear hB
 obtain ⟨W, hW⟩ : ∃ z0, z0 = w.alloc (.cells #[.int .i64 st, .int .i64 s0, .slice mo ms.length mc, .slice bo dn.length bc] 25) := ⟨_, rfl⟩
 have b_W : Below w.heap.size w W := by rw [hW]; exact qBA _ _
 have s_W : W.heap.size = w.heap.size + 1 := by rw [hW]; exact Array.size_push (xs := w.heap) _
 have hg_gc : W.heap[w.heap.size]? = some (.cells #[.int .i64 st, .int .i64 s0, .slice mo ms.length mc, .slice bo dn.length bc] 25) := (by rw [hW]; exact heap_alloc_new w _)
 have HBW := qHd (show Below w.heap.size w W from b_W)
 obtain ⟨gc, hgc⟩ : ∃ g, g = w.heap.size := ⟨_, rfl⟩
 rw [← hgc] at hg_gc
 have l_gc : w.heap.size ≤ gc ∧ gc < W.heap.size := by rw [s_W]; omega
 have G_gc := qHd hg_gc
 obtain ⟨gcx0, gcx1, gcx2, gcx3⟩ := qbn hg_gc
 rw [hW, hgc] at gcx0 gcx1 gcx2 gcx3
 clear hg_gc b_W s_W
 have HM := qHd (hM.below HBW.out); clear hM
 go_enter Tryz.func5, Tryz.ntmps5
 by_cases t1 : 10 < st
 ·go_wp2_with fail
  go_ret
  rw [← hW]; exact ⟨false, rfl, HBW.out, fun h => absurd h (by decide)⟩
 by_cases t2 : (60 : Int) < (ms.length : Int)
 ·go_wp2_with fail
  go_ret
  rw [← hW]; exact ⟨false, rfl, HBW.out, fun h => absurd h (by decide)⟩
 have hl60 : ms.length ≤ 60 := by omega
 have h10 : st ≤ 10 := by omega
 go_wp2_with (with_reducible first | refine qah ?_ | refine qae ?_)
 rw [← hW, ← hgc]
 clear hW hgc
 clear gcx0 gcx1 gcx2 gcx3
 clear t1 t2
 refine qal.mk ?_
 go_loopw [17] (fun i' wx => ∃ k : Nat, k ≤ ms.length ∧ i' = .int .i64 k ∧ Hid (Below W.heap.size W wx) ∧ Hid (∀ (j : Nat) x, j < k → ms[j]? = some x → oneW ms.length x)) (fun i' _ => ms.length - (intOf i').toNat)
 case atStart => exact ⟨0, Nat.zero_le _, rfl, qHd (Below.refl _ _), qHd (fun j x h => absurd h (Nat.not_lt_zero _))⟩
 case round =>
  obtain ⟨k, hk, rfl, HB, HG⟩ := hrel
  obtain ⟨wo, rfl⟩ : ∃ wo : World, wo = wr := ⟨_, rfl⟩
  by_cases hlt : k < ms.length
  ·have hltz : (k : Int) < (ms.length : Int) := by omega
   obtain ⟨m, hm⟩ : ∃ m, ms[k]? = some m := ⟨ms[k], List.getElem?_eq_getElem hlt⟩
   obtain ⟨mb, moff, rfl, hmb, _, hat⟩ := (HM.out.below HB.out).at (by omega)
   obtain ⟨om, cm, am, dm, m0, m1, m2, m3, m4, hp, hq, hA⟩ := hat k m hm
   have hmem := List.mem_of_getElem? hm
   obtain ⟨w2, hw2, hb2, gm, hgm, hx2⟩ := qBx5 wo (.cells #[.int .i64 m.a, .int .i64 m.b, .bool m.s, .slice om m.p.length cm, .slice am m.q.length dm] 45)
   have G_gm := qHd hx2
   have HMB := qHd hmb
   obtain ⟨gcx0, gcx1, gcx2, gcx3⟩ := qbn (qab (qab G_gc.out HB.out) hb2)
   rw [hw2] at gcx0 gcx1 gcx2 gcx3
   obtain ⟨gmx0, gmx1, gmx2, gmx3, gmx4⟩ := qbz (hx2)
   rw [hw2, hgm] at gmx0 gmx1 gmx2 gmx3 gmx4
   have HQ := qHd (hq.below hb2)
   have HMM := qHd hm
   have hmmc : (ms.length : Int) ≤ 60 := by omega
   clear hat hx2 hmb hp hm hmem hA HMB hgm
   by_cases t1 : (1 : Int) < (m.p.length : Int)
   ·go_wp2_with fail
    go_ret
    rw [← hw2]
    exact ⟨false, rfl, (HBW.out.trans ((qac HB.out (Nat.le_refl _) hb2).mono HBW.out.size)), fun h => absurd h (by decide)⟩
   by_cases t2 : (1 : Int) < (m.q.length : Int)
   ·go_wp2_with fail
    go_ret
    rw [← hw2]
    exact ⟨false, rfl, (HBW.out.trans ((qac HB.out (Nat.le_refl _) hb2).mono HBW.out.size)), fun h => absurd h (by decide)⟩
   by_cases t3 : (6 : Int) < (ms.length : Int)
   ·by_cases t4 : (((m.q.length : Nat) : Int) == 1) = true
    ·have hl1 : m.q.length = 1 := by rw [beq_iff_eq] at t4; omega
     obtain ⟨qb, qoff, rfl, hqb, hqc⟩ := HQ.out.at (by omega)
     have hq0 := hqc 0 (by omega)
     rw [hw2, Nat.add_zero] at hq0
     have hu := HQ.out
     have hgq : gd m.q 0 < 4294967296 := by obtain ⟨_, _, _, _, _, _, _, h⟩ := hu; exact h 0
     obtain ⟨g, hg⟩ : ∃ g, g = gd m.q 0 := ⟨_, rfl⟩
     rw [← hg] at hq0 hgq
     have HGQ := qHd hg
     have LQ := qHd hl1
     have l1z : (((m.q.length : Nat) : Int)) = 1 := by omega
     clear hqc hu hg hl1 hq HQ
     by_cases t5 : (16 : Int) ≤ (g : Int)
     ·go_wp2_with fail
      go_ret
      rw [← hw2]
      exact ⟨false, rfl, (HBW.out.trans ((qac HB.out (Nat.le_refl _) hb2).mono HBW.out.size)), fun h => absurd h (by decide)⟩
     ·have HG2 := qHd (next_one HG.out HMM.out ⟨by omega, by omega, fun _ _ => by rw [← HGQ.out]; omega⟩)
      go_wp2_with fail
      go_roundw
      case rel => exact ⟨k + 1, by omega, by go_num, by rw [← hw2]; exact qHd (qac HB.out (Nat.le_refl _) hb2), HG2⟩
      case measure => simp [intOf]; omega
    ·rw [Bool.not_eq_true] at t4
     have HG2 := qHd (next_one HG.out HMM.out ⟨by omega, by omega, fun _ h => by rw [beq_eq_false_iff_ne] at t4; omega⟩)
     go_wp2_with fail
     go_roundw
     case rel => exact ⟨k + 1, by omega, by go_num, by rw [← hw2]; exact qHd (qac HB.out (Nat.le_refl _) hb2), HG2⟩
     case measure => simp [intOf]; omega
   ·have HG2 := qHd (next_one HG.out HMM.out ⟨by omega, by omega, fun h _ => by omega⟩)
    go_wp2_with fail
    go_roundw
    case rel => exact ⟨k + 1, by omega, by go_num, by rw [← hw2]; exact qHd (qac HB.out (Nat.le_refl _) hb2), HG2⟩
    case measure => simp [intOf]; omega
  ·have hk' : k = ms.length := by omega
   have hsm : SmallR ms := ⟨hl60, fun m hm => by
    obtain ⟨j, hj⟩ := List.getElem?_of_mem hm
    have hjl := (List.getElem?_eq_some_iff.1 hj).1
    exact HG.out j m (by omega) hj⟩
   have HSM := qHd hsm; clear hsm
   have HBB := qHd (HBW.out.trans (HB.out.mono HBW.out.size))
   have HK := qHd (rchain_any _ st s0 ms dn wo (HC.out.below HBB.out) HSM.out h10)
   subst hk'
   obtain ⟨gcx0, gcx1, gcx2, gcx3⟩ := qbn (qab G_gc.out HB.out)
   go_wp2_with (with_reducible refine qag ?_)
   clear gcx0 gcx1 gcx2 gcx3
   refine qal.mk ?_
   (with_reducible refine HK.out.mono ?_); rintro e w1 ⟨z, rfl, hb1, hz⟩
   have HB1 := qHd (HBB.out.trans (hb1.mono HBB.out.size))
   have HZ := qHd hz
   clear hb1 hz HK
   by_cases hz0 : (z == 0) = true
   ·go_wp2_with fail
    go_ret
    exact ⟨true, rfl, HB1.out, fun _ => ⟨HZ.out (by simpa using hz0), HSM.out, h10⟩⟩
   ·rw [Bool.not_eq_true] at hz0
    go_wp2_with fail
    go_ret
    exact ⟨false, rfl, HB1.out, fun h => absurd h (by decide)⟩
theorem run_append_Lk {P : Program} (w : World) (base : Nat) (t ty e : TypeId) (i : TypeInfo) (z : Value) (size bytes : Nat) (ht : P.underlying t = some (.slice e)) (hi : P.info? e = some i) (hz : i.zero = some z)
  (hsize : i.size = size) (hby : i.bytes = bytes) (hzs : z.cells.size = size) (hsz : 0 < size) (hzu : noU z.cells.toList)
  (v : Value) (n : Nat) (xs : List Value) (hown : qbm w base e size v n xs)
  (a : Addr) (c : Nat) (news : List Value) (kk : Nat) (hkk : 0 < kk) (hl : news.length = kk * size) (hnews : ∀ j u, news[j]? = some u → w.cell? (a.add j) = some u) (h1 : ∀ u ∈ news, u.oneCell' = true) (hnu : noU news) (hxu : noU xs)
  (h63 : n + kk ≤ maxLen) (hbytes : (n + kk) * bytes ≤ 140737488355328) (hbase : base ≤ w.heap.size) :
  ∃ v' w', (Builtin.append_ #[t, t] ty #[v, .slice (some a) kk c]).run P w = .ok v' w' ∧ qbm w' base e size v' (n + kk) (xs ++ news) ∧ w.grownBy w' v.ownBlock ∧
   (∀ g, g < w.heap.size → v.ownBlock ≠ some g → v'.ownBlock ≠ some g) := by
 subst hsize
 subst hby
 have hl' : news.length = kk * i.size := hl
 obtain ⟨v', w', hr, h2, h3, _⟩ := run_append_own (P := P) w base t ty e i z i.size i.bytes ht hi hz rfl rfl hzs hsz v n xs hown.1 a kk c news hl' hnews h1 h63 hbytes hbase
 refine ⟨v', w', hr, ⟨h2, ?_⟩, h3, ?_⟩
 ·intro g cur hg hc
  rcases hown.1.2 with ⟨rfl, rfl⟩ | ⟨g', cap, old, rfl, hbg, hgg, hnc, hcm, hcs, htake⟩
  ·have hr' := run_append_nil (P := P) w t ty e i z ht hi hz a kk c news hl' hnews (by omega) (by unfold maxLen at h63; omega) (by have hq := hbytes; rw [Nat.zero_add] at hq; omega)
   rw [hr] at hr'
   simp only [Result.ok.injEq] at hr'
   obtain ⟨rfl, rfl⟩ := hr'
   simp only [Value.ownBlock, Option.some.injEq] at hg
   subst hg
   have hn := heap_alloc_new w.drew (.cells (news.toArray ++ Builtin.zeroCells z.cells (grownCap w kk 0 e - kk)) e)
   rw [show w.drew.heap.size = w.heap.size from rfl] at hn
   rw [hn] at hc
   simp only [Option.some.injEq, Obj.cells.injEq] at hc
   rw [← hc.1, Array.toList_append]
   exact noU_app hnu (noU_zeros hzu _)
  ·by_cases hroom : n + kk ≤ cap
   ·have hfit : n * i.size + news.length ≤ old.size := by rw [hl', hcs, ← Nat.add_mul]; exact Nat.mul_le_mul_right _ hroom
    have hr' := run_append_room (P := P) w t ty e i ht hi g' n cap old hgg a kk c news hl' hnews h1 hroom hfit
    rw [hr] at hr'
    simp only [Result.ok.injEq] at hr'
    obtain ⟨rfl, rfl⟩ := hr'
    simp only [Value.ownBlock, Option.some.injEq] at hg
    subst hg
    rw [setRow_heap w g' old _ e _ hgg] at hc
    simp only [Option.some.injEq, Obj.cells.injEq] at hc
    have ho := hown.2 g' old rfl hgg
    rw [← hc.1]
    exact noU_app (noU_app (noU_take ho _) hnu) (noU_drop ho _)
   ·have holds : ∀ j u, xs[j]? = some u → w.cell? ((⟨g', 0, none⟩ : Addr).add j) = some u := World.ownsRow.cells hown.1 (g := g') rfl
    have hr' := run_append_grow (P := P) w t ty e i z ht hi hz ⟨g', 0, none⟩ n cap xs hown.1.1 holds a kk c news hl' hnews (by omega) (by unfold maxLen at h63; omega) (growslice_fits (by omega) hbytes)
    rw [hr] at hr'
    simp only [Result.ok.injEq] at hr'
    obtain ⟨rfl, rfl⟩ := hr'
    simp only [Value.ownBlock, Option.some.injEq] at hg
    subst hg
    have hn := heap_alloc_new w.drew (.cells (xs.toArray ++ news.toArray ++ Builtin.zeroCells z.cells (grownCap w (n + kk) cap e - (n + kk))) e)
    rw [show w.drew.heap.size = w.heap.size from rfl] at hn
    rw [hn] at hc
    simp only [Option.some.injEq, Obj.cells.injEq] at hc
    rw [← hc.1, Array.toList_append, Array.toList_append]
    exact noU_app (noU_app hxu hnu) (noU_zeros hzu _)
 ·intro g hglt hgne hg'
  rcases hown.1.2 with ⟨rfl, rfl⟩ | ⟨g', cap, old, rfl, hbg, hgg, hnc, hcm, hcs, htake⟩
  ·have hr' := run_append_nil (P := P) w t ty e i z ht hi hz a kk c news hl' hnews (by omega) (by unfold maxLen at h63; omega) (by have hq := hbytes; rw [Nat.zero_add] at hq; omega)
   rw [hr] at hr'
   simp only [Result.ok.injEq] at hr'
   obtain ⟨rfl, rfl⟩ := hr'
   simp only [Value.ownBlock, Option.some.injEq] at hg'
   omega
  ·by_cases hroom : n + kk ≤ cap
   ·have hfit : n * i.size + news.length ≤ old.size := by rw [hl', hcs, ← Nat.add_mul]; exact Nat.mul_le_mul_right _ hroom
    have hr' := run_append_room (P := P) w t ty e i ht hi g' n cap old hgg a kk c news hl' hnews h1 hroom hfit
    rw [hr] at hr'
    simp only [Result.ok.injEq] at hr'
    obtain ⟨rfl, rfl⟩ := hr'
    exact hgne hg'
   ·have holds : ∀ j u, xs[j]? = some u → w.cell? ((⟨g', 0, none⟩ : Addr).add j) = some u := World.ownsRow.cells hown.1 (g := g') rfl
    have hr' := run_append_grow (P := P) w t ty e i z ht hi hz ⟨g', 0, none⟩ n cap xs hown.1.1 holds a kk c news hl' hnews (by omega) (by unfold maxLen at h63; omega) (growslice_fits (by omega) hbytes)
    rw [hr] at hr'
    simp only [Result.ok.injEq] at hr'
    obtain ⟨rfl, rfl⟩ := hr'
    simp only [Value.ownBlock, Option.some.injEq] at hg'
    omega
theorem wpList_appLk {P : Program} {ops : Array Oper} {rest : List Oper} {a : Act} {w : World} {Q : Exit → Act → World → Prop} {d : Option Tmp} {tt : TypeId} {s x : Operand} {t e : TypeId} {pos : String} {af : Array Edge}
  (base : Nat) {z : Value} {size bytes : Nat} (T : qcl P t e z size bytes) (hzs : z.cells.size = size) (hzu : noU z.cells.toList) (hsz : 0 < size)
  (v : Value) (n : Nat) (xs news : List Value) (ad : Addr) (kk c : Nat) (hkk : 0 < kk) (hs : a.eval s = v) (hx : a.eval x = .slice (some ad) kk c) (hown : qbm w base e size v n xs) (hnews : ∀ j u, news[j]? = some u → w.cell? (ad.add j) = some u) (hl : news.length = kk * size)
  (h1 : ∀ u ∈ news, u.oneCell' = true) (hnu : noU news) (hxu : noU xs) (hn : n + kk ≤ 1000000) (hby : bytes ≤ 1000) (hbase : base ≤ w.heap.size)
  (hK : ∀ v' w', qbm w' base e size v' (n + kk) (xs ++ news) → w.grownBy w' v.ownBlock → (∀ g, g < w.heap.size → v.ownBlock ≠ some g → v'.ownBlock ≠ some g) → wpList P ops Q rest (a.put d v') w') :
  qal (wpList P ops Q (⟨d, .call { callee := .builtin .append, args := #[s, x], argTypes := #[t, t] }, tt, pos, af, none⟩ :: rest) a w) := by
 obtain ⟨i0, hi, hz0, hz1, hz2⟩ := T.info
 have hbb : (n + kk) * bytes ≤ 140737488355328 := Nat.le_trans (Nat.mul_le_mul hn hby) (by decide)
 obtain ⟨v', w', hr, k1, k2, k3⟩ := run_append_Lk (P := P) w base t tt e i0 z size bytes T.under hi hz0 hz1 hz2 hzs hsz hzu v n xs hown ad c news kk hkk hl hnews h1 hnu hxu (by unfold maxLen; omega) hbb hbase
 refine wpList_plain rfl fun _ hK' => ?_
 unfold Oper.wp execOp
 simp only [resolve, invoke, builtin, Sem.run_bind, Sem.run_pure, Result.andThen_ok, List.map_toArray, List.map_cons, List.map_nil, hs, hx, hr]
 exact hK' _ _ (hK v' w' k1 k2 k3)
theorem own_empty {w : World} {B : Nat} {e : TypeId} {size g : Nat} (h : w.heap[g]? = some (.cells #[] e)) (hB : B ≤ g) : qbm w B e size (.slice (some ⟨g, 0, none⟩) 0 0) 0 [] :=
 ⟨⟨by simp, .inr ⟨g, 0, #[], rfl, hB, h, Nat.le_refl _, by unfold maxLen; omega, by simp, by simp⟩⟩, fun g' cur hg hc => by
  simp only [Value.ownBlock, Option.some.injEq] at hg
  subst hg
  rw [h] at hc
  cases hc
  exact noU0⟩
def bls (l : List Bool) : List Value := l.map fun x => Value.bool x
theorem noU_bls (l : List Bool) : noU (bls l) := by
 intro u hu n
 obtain ⟨x, _, rfl⟩ := List.mem_map.1 hu
 exact fun e => by cases e
theorem bls_at {l : List Bool} {j : Nat} {x : Bool} (h : l[j]? = some x) : (bls l)[j]? = some (.bool x) := by simp [bls, h]
theorem bls_length (l : List Bool) : (bls l).length = l.length := by simp [bls]
theorem own_blsV {w : World} {B : Nat} {v : Value} {l : List Bool} (h : qbm w B 4 1 v l.length (bls l)) : BlsV w v l := by
 obtain ⟨ao, c, rfl, h1, h2, h3⟩ := qbd h.1
 refine ⟨ao, c, rfl, h1, h2, h3, ?_⟩
 intro b off s hs
 subst hs
 by_cases h0 : 0 < l.length
 ·obtain ⟨g, e1, e2, e3, e4, e5, e6⟩ := qbi h.1 rfl h0
  cases e1
  exact ⟨fun _ => ⟨e3, rfl⟩, fun j x hj => by rw [Nat.zero_add]; exact e6 j _ (bls_at hj)⟩
 ·have : l = [] := List.eq_nil_of_length_eq_zero (by omega)
  subst this
  exact ⟨fun h => absurd h (Nat.lt_irrefl _), fun j x hj => by simp at hj⟩
theorem Tryz.boolTyL : qcl Tryz.prog 23 4 (.bool false) 1 1 := .mk' Tryz.underlying23 (by kernel_rfl)
theorem noUb {x : Bool} : noU [.bool x] := noU_bls [x]
def RetBls (w : World) (l : List Bool) (e : Ending) (w' : World) : Prop := ∃ v, e = .returned v ∧ Below w.heap.size w w' ∧ qbm w' w.heap.size 4 1 v l.length (bls l)
theorem cloneB_any (v : Value) (l : List Bool) (w : World) (hv : BlsV w v l) (h0 : 0 < l.length) (hl : l.length ≤ 1000) :
  Calls Tryz.prog 66 #[v] w (RetBls w l) := by
 obtain ⟨ao, c, rfl, hc, hc2, _⟩ := hv.shape
 obtain ⟨b, off, rfl, hb, _, hat⟩ := hv.at h0
 have HAT := qHd hat; clear hat hv
 have hnil := Go.Lib.run_eql_slice_nil (P := Tryz.prog) w 23 4 (some ⟨b, off, none⟩) l.length c 0 0 Tryz.underlying23
 go_enter Tryz.func66, Tryz.ntmps66
 go_wp2_with (with_reducible refine qbf ?_)
 obtain ⟨w1, hw1, hb1, hx1⟩ := qBx3 w (.cells #[] 4)
 rw [← hw1]; clear hw1 hnil
 refine wpList_appLk w.heap.size Tryz.boolTyL rfl noUb (by decide) _ 0 [] (bls l) ⟨b, off, none⟩ l.length c h0 rfl rfl (own_empty hx1 (Nat.le_refl _)) (fun j u hu => ?_) (by rw [bls_length, Nat.mul_one]) (fun u hu => ?_) (noU_bls l) noU0 (by omega) (by decide) hb1.size ?_
 ·obtain ⟨x, hx, rfl⟩ : ∃ x, l[j]? = some x ∧ u = .bool x := by
   unfold bls at hu
   rw [List.getElem?_map] at hu
   cases hq : l[j]? with
   | none => rw [hq] at hu; cases hu
   | some x => rw [hq] at hu; exact ⟨x, rfl, by cases hu; rfl⟩
  rw [addr_add, hb1.cell (p := ⟨b, off + j, none⟩) hb]
  exact HAT.out j x hx
 ·obtain ⟨x, _, rfl⟩ := List.mem_map.1 hu
  rfl
 ·intro v' w2 ho hg _
  have hB := own_low (own_empty (size := 1) hx1 (Nat.le_refl _)).1 hg hb1 hb1.size
  have HO := qHd ho; have HB := qHd hB
  clear ho hg hB hx1 hb1
  go_wp2_with fail
  go_ret
  refine ⟨_, rfl, HB.out, ?_⟩
  have := HO.out
  rwa [Nat.zero_add, List.nil_append] at this
theorem FrL.cells {w : World} {B n g c : Nat} {x : Nat → Rat} (h : FrL w B (.slice (some ⟨g, 0, none⟩) n c) n x) (hn : 0 < n) : ∃ xs, xs.length = n * 3 ∧ noU xs ∧ (∀ u ∈ xs, u.oneCell' = true) ∧ (∀ j u, xs[j]? = some u → w.cell? ⟨g, j, none⟩ = some u) ∧ ∀ j, j < n → FrAt w xs j (x j) := by
 obtain ⟨xs, h1, h2⟩ := h
 obtain ⟨g', e, _, _, _, _, hc⟩ := qbi h1.1 rfl hn
 cases e
 refine ⟨xs, h1.1.1, h1.noU, fun u hu => ?_, hc, h2⟩
 obtain ⟨j, hj, e⟩ := List.getElem_of_mem hu
 have hlen := h1.1.1
 have h3 := h2 (j / 3) (by omega)
 obtain ⟨s, o, k, c', p, m, d, e0, e1, e2, _⟩ := h3
 have hj3 : j % 3 = 0 ∨ j % 3 = 1 ∨ j % 3 = 2 := by omega
 have hjj : xs[j]? = some u := by rw [List.getElem?_eq_getElem hj, e]
 rcases hj3 with q | q | q
 ·rw [show j = j / 3 * 3 by omega, e0] at hjj; cases hjj; rfl
 ·rw [show j = j / 3 * 3 + 1 by omega, e1] at hjj; cases hjj; rfl
 ·rw [show j = j / 3 * 3 + 2 by omega, e2] at hjj; cases hjj; rfl
theorem cloneR_any (g c n B : Nat) (x : Nat → Rat) (w : World) (hv : FrL w B (.slice (some ⟨g, 0, none⟩) n c) n x) (h0 : 0 < n) (hl : n ≤ 1000) :
  Calls Tryz.prog 88 #[.slice (some ⟨g, 0, none⟩) n c] w (RetFr w n x) := by
 obtain ⟨xs, q1, q2, q3, q4, q5⟩ := hv.cells h0
 have hgl := (hv.lt (g := g) rfl).2
 have HAT := qHd (And.intro q1 (And.intro q2 (And.intro q3 (And.intro q4 q5)))); clear q1 q2 q3 q4 q5 hv
 have hnil := Go.Lib.run_eql_slice_nil (P := Tryz.prog) w 28 37 (some ⟨g, 0, none⟩) n c 0 0 Tryz.underlying28
 go_enter Tryz.func88, Tryz.ntmps88
 go_wp2_with (with_reducible refine qbf ?_)
 obtain ⟨w1, hw1, hb1, hx1⟩ := qBx3 w (.cells #[] 37)
 rw [← hw1]; clear hw1 hnil
 obtain ⟨q1, q2, q3, q4, q5⟩ := HAT.out
 refine wpList_appLk w.heap.size Tryz.ratTy rfl noU3 (by decide) _ 0 [] xs ⟨g, 0, none⟩ n c h0 rfl rfl (own_empty hx1 (Nat.le_refl _)) (fun j u hu => ?_) q1 q3 q2 noU0 (by omega) (by decide) hb1.size ?_
 ·rw [addr_add, Nat.zero_add, hb1.cell (p := ⟨g, j, none⟩) hgl]
  exact q4 j u hu
 ·intro v' w2 ho hg _
  have he := own_empty (B := w.heap.size) (size := 3) hx1 (Nat.le_refl _)
  have hB := own_low he.1 hg hb1 hb1.size
  have hst := stp_own he hg
  have HO := qHd (show FrL w2 w.heap.size v' n x from ⟨xs, by rwa [Nat.zero_add, List.nil_append] at ho, fun j hj => ((q5 j hj).stp (qca hb1)).stp hst⟩)
  have HB := qHd hB
  clear ho hg hB hx1 hb1 q1 q2 q3 q4 q5 he hst HAT
  go_wp2_with fail
  go_ret
  exact ⟨_, rfl, HB.out, HO.out⟩
end Go.Proofs.YtblekfkmianmeaaGreatDoor
