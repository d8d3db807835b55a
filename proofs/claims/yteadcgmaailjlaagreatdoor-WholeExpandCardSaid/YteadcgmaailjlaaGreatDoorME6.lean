/-
  What the law leans on, one text behind the other (the base).
  Conditions: each theorem's own.
-/
import Derived.Test.YteadcgmaailjlaaGreatDoorME5
set_option maxRecDepth 100000
set_option maxHeartbeats 16000000
namespace Go.Proofs.YteadcgmaailjlaaGreatDoor
open Go.RowKit
def bs (s : ByteArray) : List Nat := s.data.toList.map UInt8.toNat
theorem qbg (s : ByteArray) : (bs s).length = s.size := by simp [bs]
theorem bs_lt (s : ByteArray) (k : Nat) : gd (bs s) k < 256 := by
 unfold gd bs
 rw [List.getD_eq_getElem?_getD, List.getElem?_map]
 cases s.data.toList[k]? with
 | none => simp
 | some x => simp; exact UInt8.toNat_lt x
theorem bs_getElem (s : ByteArray) (k : Nat) (h : k < s.size) : gd (bs s) k = (s[k]).toNat := by
 rw [gd_lt _ _ (by rw [qbg]; exact h)]
 simp only [bs, List.getElem_map]
 rfl

def qbv (b : Nat) : Bool := decide (65 ≤ b ∧ b ≤ 90 ∨ 97 ≤ b ∧ b ≤ 122)
def qas (b : Nat) : Bool := decide (48 ≤ b ∧ b ≤ 57)
def isBlank (b : Nat) : Bool := decide (b = 32 ∨ b = 9 ∨ b = 10 ∨ b = 13)
def isSign (b : Nat) : Bool := decide (b = 123 ∨ b = 125 ∨ b = 59 ∨ b = 58 ∨ b = 64)
def isIn (b : Nat) : Bool := qbv b || qas b || decide (b = 95) || decide (b = 46)
def notLF (b : Nat) : Bool := decide (b ≠ 10)

def run (p : Nat → Bool) (l : List Nat) (k : Nat) : Nat := k + ((l.drop k).takeWhile p).length
theorem drop_gd (l : List Nat) (k : Nat) (h : k < l.length) : l.drop k = gd l k :: l.drop (k + 1) := by
 rw [gd_lt _ _ h]; exact List.drop_eq_getElem_cons h
theorem run_yes {p : Nat → Bool} {l : List Nat} {k : Nat} (h : k < l.length) (hp : p (gd l k) = true) : run p l (k + 1) = run p l k := by
 unfold run
 rw [drop_gd l k h, List.takeWhile_cons, if_pos hp, List.length_cons]; omega
theorem run_no {p : Nat → Bool} {l : List Nat} {k : Nat} (hp : p (gd l k) = false) : run p l k = k := by
 unfold run
 by_cases h : k < l.length
 ·rw [drop_gd l k h, List.takeWhile_cons, if_neg (by rw [hp]; simp)]; rfl
 ·rw [List.drop_eq_nil_of_le (by omega)]; rfl
theorem run_end {p : Nat → Bool} {l : List Nat} {k : Nat} (h : l.length ≤ k) : run p l k = k := by
 unfold run
 rw [List.drop_eq_nil_of_le h]; rfl
theorem le_run (p : Nat → Bool) (l : List Nat) (k : Nat) : k ≤ run p l k := by unfold run; omega
theorem run_le {p : Nat → Bool} {l : List Nat} {k : Nat} (h : k ≤ l.length) : run p l k ≤ l.length := by
 unfold run
 have := (List.takeWhile_sublist (p := p) (l := l.drop k)).length_le
 rw [List.length_drop] at this; omega
theorem run_stop {p : Nat → Bool} {l : List Nat} (n : Nat) : ∀ k, l.length - k ≤ n → run p l k < l.length → p (gd l (run p l k)) = false := by
 induction n with
 | zero => intro k hk h; have := le_run p l k; omega
 | succ n ih =>
  intro k hk h
  cases hp : p (gd l k) with
  | false => rw [run_no hp]; exact hp
  | true =>
   have hk' : k < l.length := by have := le_run p l k; omega
   rw [← run_yes hk' hp] at h ⊢
   exact ih (k + 1) (by omega) h
theorem run_all {p : Nat → Bool} {l : List Nat} (n : Nat) : ∀ k, l.length - k ≤ n → ∀ j, k ≤ j → j < run p l k → p (gd l j) = true := by
  induction n with
  | zero => intro k hk j h1 h2; by_cases h : k < l.length
            · omega
            · rw [run_end (by omega)] at h2; omega
  | succ n ih =>
    intro k hk j h1 h2
    cases hp : p (gd l k) with
    | false => rw [run_no hp] at h2; omega
    | true =>
      by_cases hk' : k < l.length
      · by_cases hj : j = k
        · rw [hj]; exact hp
        · exact ih (k + 1) (by omega) j (by omega) (by rw [run_yes hk' hp]; exact h2)
      · rw [run_end (by omega)] at h2; omega

def qbw (l : List Nat) (k : Nat) : Nat :=
 if run qas l k + 1 < l.length ∧ (gd l (run qas l k) = 46 ∨ gd l (run qas l k) = 47) ∧ qas (gd l (run qas l k + 1)) = true
 then run qas l (run qas l k + 1) else run qas l k
theorem le_numEnd (l : List Nat) (k : Nat) : k ≤ qbw l k := by
 have := le_run qas l k
 have := le_run qas l (run qas l k + 1)
 unfold qbw; split <;> omega
theorem numEnd_le {l : List Nat} {k : Nat} (h : k ≤ l.length) : qbw l k ≤ l.length := by
 have := run_le (p := qas) h
 unfold qbw; split
 ·exact run_le (by omega)
 ·exact this
theorem numEnd_stop {l : List Nat} {k : Nat} (h : qbw l k < l.length) : qas (gd l (qbw l k)) = false := by
 unfold qbw at h ⊢
 split at h
 ·rename_i hc; rw [if_pos hc]; exact run_stop _ _ (Nat.le_refl _) h
 ·rename_i hc; rw [if_neg hc]; exact run_stop _ _ (Nat.le_refl _) h

structure St where
 err : Nat
 kind : Nat
 fin : Nat
def badAfter (b : Nat) : Bool := isIn b || decide (b = 47)
def qbn (l : List Nat) (i : Nat) : St :=
 if isBlank (gd l i) = true then ⟨0, 3, i + 1⟩
 else if gd l i = 35 then ⟨0, 3, run notLF l i⟩
 else if qbv (gd l i) = true then (if 24 < run isIn l i - i then ⟨5, 0, 0⟩ else ⟨0, 0, run isIn l i⟩)
 else if qas (gd l i) = true then (if qbw l i < l.length ∧ badAfter (gd l (qbw l i)) = true then ⟨2, 0, 0⟩ else ⟨0, 1, qbw l i⟩)
 else if isSign (gd l i) = true then ⟨0, 2, i + 1⟩
 else ⟨2, 0, 0⟩

theorem hash_run {l : List Nat} {i : Nat} (hi : i < l.length) (h : gd l i = 35) : run notLF l i = run notLF l (i + 1) := (run_yes hi (by rw [h]; rfl)).symm
theorem letter_run {l : List Nat} {i : Nat} (hi : i < l.length) (h : qbv (gd l i) = true) : run isIn l i = run isIn l (i + 1) := (run_yes hi (by simp [isIn, h])).symm
theorem lt_numEnd {l : List Nat} {i : Nat} (hi : i < l.length) (h : qas (gd l i) = true) : i < qbw l i := by
 have h1 := run_yes (p := qas) hi h
 have h2 := le_run qas l (i + 1)
 have h3 := le_run qas l (run qas l i + 1)
 unfold qbw; split <;> omega

theorem stepAt_fin {l : List Nat} {i : Nat} (hi : i < l.length) (he : (qbn l i).err = 0) : i < (qbn l i).fin ∧ (qbn l i).fin ≤ l.length := by
 unfold qbn at he ⊢
 split
 ·exact ⟨by simp, by simp; omega⟩
 rename_i hb; rw [if_neg hb] at he
 split
 ·rename_i hh
  rw [hash_run hi hh]
  exact ⟨le_run _ _ _, run_le (by omega)⟩
 rename_i hh; rw [if_neg hh] at he
 split
 ·rename_i hl; rw [if_pos hl] at he
  split at he
  ·simp at he
  ·rename_i hn; rw [if_neg hn, letter_run hi hl]
   exact ⟨le_run _ _ _, run_le (by omega)⟩
 rename_i hl; rw [if_neg hl] at he
 split
 ·rename_i hd; rw [if_pos hd] at he
  split at he
  ·simp at he
  ·rename_i hn; rw [if_neg hn]
   exact ⟨lt_numEnd hi hd, numEnd_le (by omega)⟩
 rename_i hd; rw [if_neg hd] at he
 split
 ·exact ⟨by simp, by simp; omega⟩
 ·rename_i hs; rw [if_neg hs] at he; simp at he

structure Tk where
 kind : Nat
 at_ : Nat
 fin : Nat
def scan (l : List Nat) : Nat → Nat → List Tk × Nat
 | 0, _ => ([], 0)
 | n + 1, i =>
  if i < l.length then
   if (qbn l i).err ≠ 0 then ([], (qbn l i).err)
   else if (scan l n (qbn l i).fin).2 ≠ 0 then ([], (scan l n (qbn l i).fin).2)
   else (if (qbn l i).kind = 3 then (scan l n (qbn l i).fin).1 else ⟨(qbn l i).kind, i, (qbn l i).fin⟩ :: (scan l n (qbn l i).fin).1, 0)
  else ([], 0)
theorem scan_enough (l : List Nat) (n : Nat) : ∀ m i, l.length - i ≤ n → n ≤ m → scan l m i = scan l n i := by
 induction n with
 | zero =>
  intro m i h1 h2
  cases m with
  | zero => rfl
  | succ m => simp only [scan]; rw [if_neg (by omega)]
 | succ n ih =>
  intro m i h1 h2
  obtain ⟨m, rfl⟩ : ∃ k, m = k + 1 := ⟨m - 1, by omega⟩
  simp only [scan]
  by_cases hi : i < l.length
  ·rw [if_pos hi, if_pos hi]
   by_cases he : (qbn l i).err = 0
   ·have := stepAt_fin hi he
    rw [ih m _ (by omega) (by omega)]
   ·rw [if_pos he, if_pos he]
  ·rw [if_neg hi, if_neg hi]
def qck (l : List Nat) (i : Nat) : List Tk × Nat := scan l (l.length - i) i
theorem scanAt_end {l : List Nat} {i : Nat} (h : l.length ≤ i) : qck l i = ([], 0) := by
 unfold qck; rw [Nat.sub_eq_zero_of_le h]; rfl
theorem scanAt_err {l : List Nat} {i : Nat} (h : i < l.length) (he : (qbn l i).err ≠ 0) : qck l i = ([], (qbn l i).err) := by
 unfold qck
 obtain ⟨n, hn⟩ : ∃ n, l.length - i = n + 1 := ⟨l.length - i - 1, by omega⟩
 rw [hn]; simp only [scan]; rw [if_pos h, if_pos he]
theorem scanAt_step {l : List Nat} {i : Nat} (h : i < l.length) (he : (qbn l i).err = 0) :
  qck l i = if (qck l (qbn l i).fin).2 ≠ 0 then ([], (qck l (qbn l i).fin).2)
   else (if (qbn l i).kind = 3 then (qck l (qbn l i).fin).1 else ⟨(qbn l i).kind, i, (qbn l i).fin⟩ :: (qck l (qbn l i).fin).1, 0) := by
 have hf := stepAt_fin h he
 unfold qck
 obtain ⟨n, hn⟩ : ∃ n, l.length - i = n + 1 := ⟨l.length - i - 1, by omega⟩
 rw [hn]
 have := scan_enough l (l.length - (qbn l i).fin) n (qbn l i).fin (Nat.le_refl _) (by omega)
 rw [← this]
 simp only [scan]; rw [if_pos h, if_neg (by simpa using he)]

def lineOf (l : List Nat) (i : Nat) : Nat := 1 + (l.take i).count 10
def qbk (l : List Nat) : Nat → Nat
 | 0 => 0
 | i + 1 => if gd l i = 10 then i + 1 else qbk l i
theorem lineStart_le (l : List Nat) (i : Nat) : qbk l i ≤ i := by
 induction i with
 | zero => simp [qbk]
 | succ i ih => simp only [qbk]; split <;> omega
def colOf (l : List Nat) (i : Nat) : Nat := i - qbk l i + 1
theorem lineOf_succ {l : List Nat} {i : Nat} (h : i < l.length) : lineOf l (i + 1) = lineOf l i + if gd l i = 10 then 1 else 0 := by
 unfold lineOf
 rw [List.take_succ_eq_append_getElem h, List.count_append, gd_lt _ _ h]
 by_cases h10 : l[i] = 10 <;> simp [h10] <;> omega
theorem line_run {l : List Nat} {i : Nat} (j : Nat) (h : i ≤ j) (hj : j ≤ l.length) (hn : ∀ k, i ≤ k → k < j → gd l k ≠ 10) :
  lineOf l j = lineOf l i ∧ qbk l j = qbk l i := by
 obtain ⟨d, rfl⟩ : ∃ d, j = i + d := ⟨j - i, by omega⟩
 clear h
 induction d with
 | zero => exact ⟨rfl, rfl⟩
 | succ d ih =>
  have h10 := hn (i + d) (by omega) (by omega)
  have := ih (by omega) (fun k h1 h2 => hn k h1 (by omega))
  rw [show i + (d + 1) = (i + d) + 1 from rfl, lineOf_succ (by omega), if_neg h10]
  simp only [qbk]; rw [if_neg h10]
  exact ⟨by omega, this.2⟩
end Go.Proofs.YteadcgmaailjlaaGreatDoor
namespace Go.Proofs
open Go.Shelf
def Tryz.lays137_ren : Go.Shelf.Ren := ⟨fun | 137 => 136 | 217 => 168 | 266 => 187 | n => n, fun | 9 => 9 | 5 => 5 | 3 => 3 | n => n, fun | n => n⟩
theorem Tryz.lays137 : Go.Proofs.Lays.n137 Tryz.prog Tryz.lays137_ren := {
 mixed := by kernel_rfl
 f137 := Tryz.func136.trans (congrArg some (by kernel_rfl))
 f217 := Tryz.func168.trans (congrArg some (by kernel_rfl))
 f266 := Tryz.func187.trans (congrArg some (by kernel_rfl))
 t3 := Tryz.underlying3
 a3 := Tryz.isAgg3
 z3 := Tryz.sizeOf3
 v3 := Tryz.zeroValue3
 t5 := Tryz.underlying5
 a5 := Tryz.isAgg5
 z5 := Tryz.sizeOf5
 v5 := Tryz.zeroValue5
 t9 := Tryz.underlying9
 a9 := Tryz.isAgg9
 z9 := Tryz.sizeOf9
 v9 := Tryz.zeroValue9 }
open Go.RowKit in
/-- strings.IndexByte: "IndexByte returns the index of the first instance of c in s, or -1 if c is not present in s.": IT RETURNS 'Lib.indexByte s c'; the world is as it was. (LAID: no walk: one application.) -/
theorem Tryz.strings_IndexByte (s : ByteArray) (c : Int) (w : World) :
  Calls Tryz.prog 136 #[.string s, .int .u8 c] w fun e w' => e = .returned (.int .i64 (Lib.indexByte s.data.toList c.toNat.toUInt8)) ∧ w' = w := Any.strings_IndexByte Tryz.lays137 s c w
end Go.Proofs
namespace Go.Proofs.YteadcgmaailjlaaGreatDoor
open Go.RowKit Go.ChangeShapes Go.WideShapes
theorem qcs {P : Program} (s : ByteArray) (t : TypeId) (ht : P.underlying t = some .string) (k : Nat) (h : k < s.size) (w : World) :
  (Instr.index t (.string s) (.int .i64 k)).run P w = .ok (.int .u8 (gd (bs s) k : Nat)) w := by
 rw [run_index_string w t s _ _ ht, dif_pos (by omega)]
 congr 2
 simp only [Int.toNat_natCast]
 rw [bs_getElem s k h]

theorem blank_index : ∀ b : Nat, b < 256 → decide (0 ≤ Lib.indexByte [32, 9, 10, 13] (UInt8.ofNat b)) = isBlank b := by decide +kernel
theorem sign_index : ∀ b : Nat, b < 256 → decide (0 ≤ Lib.indexByte [123, 125, 59, 58, 64] (UInt8.ofNat b)) = isSign b := by decide +kernel

theorem qcl (b : Nat) (w : World) (hb : b < 256) : Calls Tryz.prog 94 #[.int .u8 b] w (RetS w (.bool (qbv b))) := by
 obtain ⟨r, hr⟩ : ∃ r, r = qbv b := ⟨_, rfl⟩
 rw [← hr]
 have HR := qHd hr; clear hr
 go_enter Tryz.func94, Tryz.ntmps94
 go_wp2
 all_goals go_ret
 all_goals (refine ⟨qcj ?_, rfl⟩; rw [HR.out, Bool.eq_iff_iff]; simp [qbv]; try omega)

theorem qec (b : Nat) (w : World) (hb : b < 256) : Calls Tryz.prog 96 #[.int .u8 b] w (RetS w (.bool (qas b))) := by
 obtain ⟨r, hr⟩ : ∃ r, r = qas b := ⟨_, rfl⟩
 rw [← hr]
 have HR := qHd hr; clear hr
 go_enter Tryz.func96, Tryz.ntmps96
 go_wp2
 all_goals go_ret
 all_goals (refine ⟨qcj ?_, rfl⟩; rw [HR.out, Bool.eq_iff_iff]; simp [qas]; try omega)

theorem qdn (b : Nat) (w : World) (hb : b < 256) : Calls Tryz.prog 93 #[.int .u8 b] w (RetS w (.bool (isBlank b))) := by
 have HR := qHd (blank_index b hb)
 go_enter Tryz.func93, Tryz.ntmps93
 go_wp2_with (go_at_call 136; (with_reducible refine (Tryz.strings_IndexByte _ _ _).mono ?_); rintro e w' ⟨rfl, rfl⟩)
 all_goals go_ret
 all_goals (refine ⟨qcj ?_, rfl⟩; rw [← HR.out])

theorem tsign_any (b : Nat) (w : World) (hb : b < 256) : Calls Tryz.prog 98 #[.int .u8 b] w (RetS w (.bool (isSign b))) := by
 have HR := qHd (sign_index b hb)
 go_enter Tryz.func98, Tryz.ntmps98
 go_wp2_with (go_at_call 136; (with_reducible refine (Tryz.strings_IndexByte _ _ _).mono ?_); rintro e w' ⟨rfl, rfl⟩)
 all_goals go_ret
 all_goals (refine ⟨qcj ?_, rfl⟩; rw [← HR.out])

theorem digits_any (s : ByteArray) (k : Nat) (w : World) (hs : s.size ≤ 9223372036854775806) (hk : k ≤ s.size) :
  Calls Tryz.prog 137 #[.string s, .int .i64 k] w (RetS w (.int .i64 (run qas (bs s) k : Nat))) := by
 go_enter Tryz.func137, Tryz.ntmps137
 go_wp2_with fail
 go_loop [1] (fun i => ∃ j : Nat, j ≤ s.size ∧ i = .int .i64 j ∧ run qas (bs s) j = run qas (bs s) k) (fun i => s.size - (intOf i).toNat)
 case atStart => exact ⟨k, hk, rfl, rfl⟩
 case round =>
  obtain ⟨j, hj, rfl, hd⟩ := hrel
  have HD := qHd hd; clear hd
  by_cases hlt : j < s.size
  ·have hix := qcs (P := Tryz.prog) s 9 Tryz.underlying9 j hlt
   go_wp2_with (go_at_call 96; (with_reducible refine (qec _ _ (bs_lt _ _)).mono ?_); rintro e w' ⟨rfl, rfl⟩)
   ·have hp : qas (gd (bs s) j) = true := by assumption
    go_round
    case rel => exact ⟨j + 1, by omega, by go_num, by rw [run_yes (by rw [qbg]; exact hlt) hp]; exact HD.out⟩
    case measure => simp [intOf]; omega
   ·have hp : qas (gd (bs s) j) = false := by assumption
    go_ret
    exact ⟨ret_int (by rw [← HD.out, run_no hp]), rfl⟩
  ·go_wp2_with fail
   go_ret
   exact ⟨ret_int (by rw [← HD.out, run_end (by rw [qbg]; omega)]), rfl⟩

theorem isIn_cases (b : Nat) : (isIn b = true ∧ (qbv b = true ∨ (qbv b = false ∧ qas b = true) ∨ (qbv b = false ∧ qas b = false ∧ ((b : Int) == 95) = true) ∨
  (qbv b = false ∧ qas b = false ∧ ((b : Int) == 95) = false ∧ ((b : Int) == 46) = true))) ∨ (isIn b = false ∧ qbv b = false ∧ qas b = false ∧ ((b : Int) == 95) = false ∧ ((b : Int) == 46) = false) := by
 unfold isIn
 cases h1 : qbv b
 ·cases h2 : qas b
  ·by_cases h3 : b = 95
   ·subst h3; left; simp
   ·by_cases h4 : b = 46
    ·subst h4; left; simp
    ·right; simp [h3, h4]; omega
  ·left; simp
 ·left; simp
theorem wordEnd_any (s : ByteArray) (k : Nat) (w : World) (hs : s.size ≤ 9223372036854775806) (hk : k ≤ s.size) :
  Calls Tryz.prog 95 #[.string s, .int .i64 k] w (RetS w (.int .i64 (run isIn (bs s) k : Nat))) := by
 go_enter Tryz.func95, Tryz.ntmps95
 go_wp2_with fail
 go_loop [1] (fun i => ∃ j : Nat, j ≤ s.size ∧ i = .int .i64 j ∧ run isIn (bs s) j = run isIn (bs s) k) (fun i => s.size - (intOf i).toNat)
 case atStart => exact ⟨k, hk, rfl, rfl⟩
 case round =>
  obtain ⟨j, hj, rfl, hd⟩ := hrel
  have HD := qHd hd; clear hd
  by_cases hlt : j < s.size
  ·have hix := qcs (P := Tryz.prog) s 9 Tryz.underlying9 j hlt
   rcases isIn_cases (gd (bs s) j) with ⟨hp, hc⟩ | ⟨hp, h1, h2, h3, h4⟩
   ·have HP := qHd hp; clear hp
    rcases hc with h1 | ⟨h1, h2⟩ | ⟨h1, h2, h3⟩ | ⟨h1, h2, h3, h4⟩
    all_goals
     go_wp2_with (first | (go_at_call 94; (with_reducible refine (qcl _ _ (bs_lt _ _)).mono ?_); rintro e w' ⟨rfl, rfl⟩) | (go_at_call 96; (with_reducible refine (qec _ _ (bs_lt _ _)).mono ?_); rintro e w' ⟨rfl, rfl⟩))
     go_round
     case rel => exact ⟨j + 1, by omega, by go_num, by rw [run_yes (by rw [qbg]; exact hlt) HP.out]; exact HD.out⟩
     case measure => simp [intOf]; omega
   ·have HP := qHd hp; clear hp
    go_wp2_with (first | (go_at_call 94; (with_reducible refine (qcl _ _ (bs_lt _ _)).mono ?_); rintro e w' ⟨rfl, rfl⟩) | (go_at_call 96; (with_reducible refine (qec _ _ (bs_lt _ _)).mono ?_); rintro e w' ⟨rfl, rfl⟩))
    go_ret
    exact ⟨ret_int (by rw [← HD.out, run_no HP.out]), rfl⟩
  ·go_wp2_with fail
   go_ret
   exact ⟨ret_int (by rw [← HD.out, run_end (by rw [qbg]; omega)]), rfl⟩
theorem numEnd_cases (l : List Nat) (k : Nat) :
    (¬ run qas l k + 1 < l.length ∧ qbw l k = run qas l k) ∨
    (run qas l k + 1 < l.length ∧
      ((((gd l (run qas l k) : Int) == 46) = false ∧ ((gd l (run qas l k) : Int) == 47) = false ∧ qbw l k = run qas l k) ∨
       ((((gd l (run qas l k) : Int) == 46) = true ∨ (((gd l (run qas l k) : Int) == 46) = false ∧ ((gd l (run qas l k) : Int) == 47) = true)) ∧
         ((qas (gd l (run qas l k + 1)) = true ∧ qbw l k = run qas l (run qas l k + 1)) ∨ (qas (gd l (run qas l k + 1)) = false ∧ qbw l k = run qas l k))))) := by
  unfold qbw
  by_cases h1 : run qas l k + 1 < l.length
  · right; refine ⟨h1, ?_⟩
    by_cases h2 : gd l (run qas l k) = 46
    · right
      refine ⟨Or.inl (by simp [h2]), ?_⟩
      cases h3 : qas (gd l (run qas l k + 1)) <;> simp [h1, h2]
    · by_cases h3 : gd l (run qas l k) = 47
      · right
        refine ⟨Or.inr ⟨by simp [h3], by simp [h3]⟩, ?_⟩
        cases h4 : qas (gd l (run qas l k + 1)) <;> simp [h1, h3]
      · left
        refine ⟨by simp; omega, by simp; omega, by rw [if_neg (by omega)]⟩
  · left; exact ⟨h1, by rw [if_neg (by omega)]⟩

theorem numberEnd_any (s : ByteArray) (k : Nat) (w : World) (hs : s.size ≤ 9223372036854775806) (hk : k ≤ s.size) :
  Calls Tryz.prog 97 #[.string s, .int .i64 k] w (RetS w (.int .i64 (qbw (bs s) k : Nat))) := by
 have hle := run_le (p := qas) (l := bs s) (k := k) (by rw [qbg]; exact hk)
 rcases numEnd_cases (bs s) k with ⟨h1, h2⟩ | ⟨h1, hc⟩
 ·rw [qbg] at hle h1
  have H2 := qHd h2; clear h2
  go_enter Tryz.func97, Tryz.ntmps97
  go_wp2_with (go_at_call 137; (with_reducible refine (digits_any s k _ hs hk).mono ?_); rintro e w' ⟨rfl, rfl⟩)
  go_ret
  exact ⟨ret_int (by rw [H2.out]), rfl⟩
 ·rw [qbg] at hle h1
  have hix := qcs (P := Tryz.prog) s 9 Tryz.underlying9 (run qas (bs s) k) (by omega)
  have hix1 := qcs (P := Tryz.prog) s 9 Tryz.underlying9 (run qas (bs s) k + 1) (by omega)
  rw [show ((run qas (bs s) k + 1 : Nat) : Int) = (run qas (bs s) k : Int) + 1 from by omega] at hix1
  rcases hc with ⟨h2, h3, h4⟩ | ⟨h2, h3⟩
  ·have H4 := qHd h4; clear h4
   go_enter Tryz.func97, Tryz.ntmps97
   go_wp2_with (go_at_call 137; (with_reducible refine (digits_any s k _ hs hk).mono ?_); rintro e w' ⟨rfl, rfl⟩)
   go_ret
   exact ⟨ret_int (by rw [H4.out]), rfl⟩
  ·have hd1 : Calls Tryz.prog 137 #[.string s, .int .i64 ((run qas (bs s) k : Int) + 1)] w (RetS w (.int .i64 (run qas (bs s) (run qas (bs s) k + 1) : Nat))) := digits_any s (run qas (bs s) k + 1) w hs (by omega)
   have HD := qHd hd1; clear hd1
   rcases h3 with ⟨h3, h4⟩ | ⟨h3, h4⟩
   all_goals
    have H4 := qHd h4; clear h4
    rcases h2 with h2 | ⟨h2, h5⟩
    all_goals
     go_enter Tryz.func97, Tryz.ntmps97
     go_wp2_with (first | (go_at_call 137; (with_reducible refine (digits_any s k _ hs hk).mono ?_); rintro e w' ⟨rfl, rfl⟩) | (go_at_call 137; (with_reducible refine HD.out.mono ?_); rintro e w' ⟨rfl, rfl⟩) | (go_at_call 96; (with_reducible refine (qec _ _ (bs_lt _ _)).mono ?_); rintro e w' ⟨rfl, rfl⟩))
     go_ret
     exact ⟨ret_int (by rw [H4.out]), rfl⟩
end Go.Proofs.YteadcgmaailjlaaGreatDoor
namespace Go.Proofs.YteadcgmaailjlaaGreatDoor
open Go.RowKit
def qca (ts : List Tk) (r : List Tk × Nat) : List Tk × Nat := if r.2 ≠ 0 then ([], r.2) else (ts ++ r.1, 0)
def splitL (l : List Nat) : List Tk × Nat := if 65536 < l.length then ([], 4) else qck l 0
theorem scan_clean (l : List Nat) (n : Nat) : ∀ i, (scan l n i).2 ≠ 0 → (scan l n i).1 = [] := by
 induction n with
 | zero => intro i h; simp [scan] at h
 | succ n ih =>
  intro i h
  simp only [scan] at h ⊢
  split at h
  ·rename_i h1; rw [if_pos h1]
   split at h
   ·rename_i h2; rw [if_pos h2]
   ·rename_i h2; rw [if_neg h2]
    split at h
    ·rename_i h3; rw [if_pos h3]
    ·simp at h
  ·simp at h
theorem joinScan_nil (l : List Nat) : qca [] (qck l 0) = qck l 0 := by
 unfold qca qck
 have h := scan_clean l (l.length - 0) 0
 generalize scan l (l.length - 0) 0 = r at h
 obtain ⟨a, b⟩ := r
 by_cases hb : b = 0
 ·subst hb; simp
 ·simp only [ne_eq, hb, not_false_eq_true, if_true]
  obtain rfl : a = [] := h hb
  rfl
theorem join_end {l : List Nat} {i : Nat} (ts : List Tk) (h : l.length ≤ i) : qca ts (qck l i) = (ts, 0) := by
 rw [scanAt_end h]; simp [qca]
theorem join_err {l : List Nat} {i : Nat} (ts : List Tk) (h : i < l.length) (he : (qbn l i).err ≠ 0) : qca ts (qck l i) = ([], (qbn l i).err) := by
 rw [scanAt_err h he]; simp [qca, he]
theorem join_skip {l : List Nat} {i : Nat} (ts : List Tk) (h : i < l.length) (he : (qbn l i).err = 0) (hk : (qbn l i).kind = 3) :
  qca ts (qck l i) = qca ts (qck l (qbn l i).fin) := by
 rw [scanAt_step h he]
 by_cases h2 : (qck l (qbn l i).fin).2 = 0
 ·simp [qca, h2, hk]
 ·simp [qca, h2]
theorem join_tok {l : List Nat} {i : Nat} (ts : List Tk) (h : i < l.length) (he : (qbn l i).err = 0) (hk : (qbn l i).kind ≠ 3) :
  qca ts (qck l i) = qca (ts ++ [⟨(qbn l i).kind, i, (qbn l i).fin⟩]) (qck l (qbn l i).fin) := by
 rw [scanAt_step h he]
 by_cases h2 : (qck l (qbn l i).fin).2 = 0
 ·simp [qca, h2, hk]
 ·simp [qca, h2]

theorem join_err' {l : List Nat} {i c k e : Nat} (ts : List Tk) (h : i < l.length) (hs : qbn l i = ⟨c, k, e⟩) (hc : c ≠ 0) : qca ts (qck l i) = ([], c) := by
 rw [join_err ts h (by rw [hs]; exact hc), hs]
theorem join_skip' {l : List Nat} {i e : Nat} (ts : List Tk) (h : i < l.length) (hs : qbn l i = ⟨0, 3, e⟩) : qca ts (qck l i) = qca ts (qck l e) := by
 rw [join_skip ts h (by rw [hs]) (by rw [hs]), hs]
theorem join_tok' {l : List Nat} {i k e : Nat} (ts : List Tk) (h : i < l.length) (hs : qbn l i = ⟨0, k, e⟩) (hk : k ≠ 3) : qca ts (qck l i) = qca (ts ++ [⟨k, i, e⟩]) (qck l e) := by
 rw [join_tok ts h (by rw [hs]) (by rw [hs]; exact hk), hs]

theorem step_cases (l : List Nat) (i : Nat) (b : Nat) (hb : b = gd l i) :
  (isBlank b = true ∧ ((b : Int) == 10) = true ∧ b = 10 ∧ qbn l i = ⟨0, 3, i + 1⟩) ∨
  (isBlank b = true ∧ ((b : Int) == 10) = false ∧ b ≠ 10 ∧ qbn l i = ⟨0, 3, i + 1⟩) ∨
  (isBlank b = false ∧ ((b : Int) == 35) = true ∧ b = 35 ∧ qbn l i = ⟨0, 3, run notLF l i⟩) ∨
  (isBlank b = false ∧ ((b : Int) == 35) = false ∧ qbv b = true ∧ 24 < run isIn l i - i ∧ qbn l i = ⟨5, 0, 0⟩) ∨
  (isBlank b = false ∧ ((b : Int) == 35) = false ∧ qbv b = true ∧ run isIn l i - i ≤ 24 ∧ qbn l i = ⟨0, 0, run isIn l i⟩) ∨
  (isBlank b = false ∧ ((b : Int) == 35) = false ∧ qbv b = false ∧ qas b = true ∧ (qbw l i < l.length ∧ badAfter (gd l (qbw l i)) = true) ∧ qbn l i = ⟨2, 0, 0⟩) ∨
  (isBlank b = false ∧ ((b : Int) == 35) = false ∧ qbv b = false ∧ qas b = true ∧ (qbw l i < l.length → badAfter (gd l (qbw l i)) = false) ∧ qbn l i = ⟨0, 1, qbw l i⟩) ∨
  (isBlank b = false ∧ ((b : Int) == 35) = false ∧ qbv b = false ∧ qas b = false ∧ isSign b = true ∧ qbn l i = ⟨0, 2, i + 1⟩) ∨
  (isBlank b = false ∧ ((b : Int) == 35) = false ∧ qbv b = false ∧ qas b = false ∧ isSign b = false ∧ qbn l i = ⟨2, 0, 0⟩) := by
 subst hb
 unfold qbn
 cases h1 : isBlank (gd l i)
 ·by_cases h2 : gd l i = 35
  ·right; right; left; simp [h2]
  ·have h2' : ((gd l i : Int) == 35) = false := by simp; omega
   cases h3 : qbv (gd l i)
   ·cases h4 : qas (gd l i)
    ·cases h5 : isSign (gd l i)
     ·iterate 8 right
      simp [h2]; omega
     ·iterate 7 right
      left; simp [h2]; omega
    ·by_cases h5 : qbw l i < l.length ∧ badAfter (gd l (qbw l i)) = true
     ·iterate 5 right
      left; refine ⟨rfl, h2', rfl, rfl, h5, ?_⟩; simp [h2, h5]
     ·iterate 6 right
      left; refine ⟨rfl, h2', rfl, rfl, fun h => by cases hq : badAfter (gd l (qbw l i)) <;> simp_all, ?_⟩
      rw [if_neg (by simp), if_neg h2, if_neg (by simp), if_pos rfl, if_neg h5]
   ·by_cases h4 : 24 < run isIn l i - i
    ·iterate 3 right
     left; refine ⟨rfl, h2', rfl, h4, ?_⟩
     rw [if_neg (by simp), if_neg h2, if_pos rfl, if_pos h4]
    ·iterate 4 right
     left; refine ⟨rfl, h2', rfl, by omega, ?_⟩
     rw [if_neg (by simp), if_neg h2, if_pos rfl, if_neg h4]
 ·by_cases h2 : gd l i = 10
  ·left; simp [h2]
  ·right; left; simp [h2]; omega

theorem bad_cases (l : List Nat) (e : Nat) (b : Nat) (_hb : b = gd l e) (hd : qas b = false) :
  (badAfter b = true ∧ (qbv b = true ∨ (qbv b = false ∧ ((b : Int) == 95) = true) ∨ (qbv b = false ∧ ((b : Int) == 95) = false ∧ ((b : Int) == 46) = true) ∨
   (qbv b = false ∧ ((b : Int) == 95) = false ∧ ((b : Int) == 46) = false ∧ ((b : Int) == 47) = true))) ∨
  (badAfter b = false ∧ qbv b = false ∧ ((b : Int) == 95) = false ∧ ((b : Int) == 46) = false ∧ ((b : Int) == 47) = false) := by
 unfold badAfter isIn
 cases h1 : qbv b
 ·by_cases h2 : b = 95
  ·left; simp [h2]
  ·by_cases h3 : b = 46
   ·left; simp [h3]
   ·by_cases h4 : b = 47
    ·left; simp [h4]
    ·right; simp [h2, h3, h4, hd]; omega
 ·left; simp
theorem isIn_ne {b : Nat} (h : isIn b = true) : b ≠ 10 := by rintro rfl; revert h; decide
theorem isDigit_ne {b : Nat} (h : qas b = true) : b ≠ 10 := by rintro rfl; revert h; decide
theorem isSign_ne {b : Nat} (h : isSign b = true) : b ≠ 10 := by rintro rfl; revert h; decide
theorem numEnd_ne {l : List Nat} {i j : Nat} (h1 : i ≤ j) (h2 : j < qbw l i) : gd l j ≠ 10 := by
 unfold qbw at h2
 split at h2
 ·rename_i hc
  obtain ⟨c1, c2, c3⟩ := hc
  by_cases h3 : j < run qas l i
  ·exact isDigit_ne (run_all _ _ (Nat.le_refl _) j h1 h3)
  ·by_cases h4 : j = run qas l i
   ·rw [h4]; omega
   ·exact isDigit_ne (run_all _ _ (Nat.le_refl _) j (by omega) h2)
 ·exact isDigit_ne (run_all _ _ (Nat.le_refl _) j h1 h2)
theorem line_word {l : List Nat} {i : Nat} (h : i ≤ l.length) : lineOf l (run isIn l i) = lineOf l i ∧ qbk l (run isIn l i) = qbk l i :=
 line_run _ (le_run _ _ _) (run_le h) fun k h1 h2 => isIn_ne (run_all _ _ (Nat.le_refl _) k h1 h2)
theorem line_number {l : List Nat} {i : Nat} (h : i ≤ l.length) : lineOf l (qbw l i) = lineOf l i ∧ qbk l (qbw l i) = qbk l i :=
 line_run _ (le_numEnd _ _) (numEnd_le h) fun _ h1 h2 => numEnd_ne h1 h2
theorem line_comment {l : List Nat} {i : Nat} (h : i ≤ l.length) : lineOf l (run notLF l i) = lineOf l i ∧ qbk l (run notLF l i) = qbk l i :=
 line_run _ (le_run _ _ _) (run_le h) fun k h1 h2 => by
  have := run_all (p := notLF) _ _ (Nat.le_refl _) k h1 h2
  simpa [notLF] using this
theorem line_one {l : List Nat} {i : Nat} (h : i < l.length) (hn : gd l i ≠ 10) : lineOf l (i + 1) = lineOf l i ∧ qbk l (i + 1) = qbk l i :=
 line_run _ (by omega) (by omega) fun k h1 h2 => by rw [show k = i by omega]; exact hn
end Go.Proofs.YteadcgmaailjlaaGreatDoor
namespace Go.Proofs.YteadcgmaailjlaaGreatDoor
open Go.RowKit Go.ChangeShapes Go.WideShapes
structure TokV where
 kind : Int
 text : ByteArray
 at_ : Int
 line : Int
 col : Int
def TokV.cells (t : TokV) : List Value := [.int .i64 t.kind, .string t.text, .int .i64 t.at_, .int .i64 t.line, .int .i64 t.col]
theorem TokV.cells_length (t : TokV) : t.cells.length = 5 := rfl
def mkTok (s : ByteArray) (t : Tk) : TokV := ⟨t.kind, s.extract t.at_ t.fin, t.at_, lineOf (bs s) t.at_, colOf (bs s) t.at_⟩

def qdf (ts : List TokV) : List Value := ts.flatMap TokV.cells
theorem tokCells_append (a b : List TokV) : qdf (a ++ b) = qdf a ++ qdf b := by simp [qdf]
theorem tokCells_one (t : TokV) : qdf [t] = t.cells := by simp [qdf]
theorem tokCells_at (ts : List TokV) : ∀ (i k : Nat) (t : TokV), ts[i]? = some t → k < 5 → (qdf ts)[i * 5 + k]? = t.cells[k]? := by
 induction ts with
 | nil => intro i k t h; simp at h
 | cons x ts ih =>
  intro i k t h hk
  cases i with
  | zero =>
   simp at h; subst h
   rw [show qdf (x :: ts) = x.cells ++ qdf ts from rfl, List.getElem?_append_left (by rw [TokV.cells_length]; omega)]
   simp
  | succ i =>
   simp only [List.getElem?_cons_succ] at h
   rw [show qdf (x :: ts) = x.cells ++ qdf ts from rfl, List.getElem?_append_right (by rw [TokV.cells_length]; omega), TokV.cells_length]
   rw [show (i + 1) * 5 + k - 5 = i * 5 + k by omega]
   exact ih i k t h hk

def OwnT (w : World) (B : Nat) (v : Value) (ts : List TokV) : Prop := w.ownsRow B 138 5 v ts.length (qdf ts)
theorem OwnT.nil (w : World) (B : Nat) : OwnT w B (.slice none 0 0) [] := World.ownsRow_nil _ _ _ _
theorem Tryz.tokenTy : qdj Tryz.prog 80 138 (.agg #[.int .i64 0, .string ⟨#[]⟩, .int .i64 0, .int .i64 0, .int .i64 0]) 5 48 :=
 .mk' Tryz.underlying80 (by kernel_rfl)

section
variable {w : World} {ops : Array Oper} {rest : List Oper} {o : Oper} {a : Act} {Q : Exit → Act → World → Prop}
theorem wpList_appendT (hg : o.guard = none) (s x : Operand) (hop : o.op = Op.call { callee := Callee.builtin Builtin.append, args := #[s, x], argTypes := #[80, 80] })
  (B : Nat) (v : Value) (ts : List TokV) (tv : TokV) (c0 c1 c2 c3 c4 : Value) (hs : a.eval s = v) (hx : a.eval x = .slice (some ⟨w.heap.size, 0, none⟩) 1 1) (hcells : tv.cells = [c0, c1, c2, c3, c4])
  (hown : OwnT w B v ts) (hlen : ts.length ≤ 1099511627776) (hB : B ≤ w.heap.size)
  (hK : ∀ v' w', OwnT w' B v' (ts ++ [tv]) → (∀ w0, Below B w0 w → Below B w0 w') → w.heap.size ≤ w'.heap.size →
   wpList Tryz.prog ops Q rest (a.put o.dst v') w') :
  wpList Tryz.prog ops Q (o :: rest) a (w.alloc (.cells #[c0, c1, c2, c3, c4] 138)) := by
 obtain ⟨i0, hi, hz0, hz1, hz2⟩ := Tryz.tokenTy.info
 refine wpList_append_own _ hg s x 80 hop B 138 i0 _ 5 48 Tryz.tokenTy.under hi hz0 hz1 hz2 rfl (by decide) v ts.length (qdf ts) hs (World.ownsRow.alloc hown _) ⟨w.heap.size, 0, none⟩ 1 1 tv.cells hx (TokV.cells_length tv) ?_ ?_ (by unfold maxLen; omega) (by omega) (by simp; omega) ?_
 ·intro j u hu
  have hj : j < 5 := by have := (List.getElem?_eq_some_iff.1 hu).1; rw [TokV.cells_length] at this; exact this
  have e2 : (⟨w.heap.size, 0, none⟩ : Addr).add j = ⟨w.heap.size, j, none⟩ := by unfold Addr.add; split <;> simp_all
  rw [e2, cell_of_row (w.alloc (.cells #[c0, c1, c2, c3, c4] 138)) w.heap.size j #[c0, c1, c2, c3, c4] 138 (0, 0) (heap_alloc_new w _)]
  rw [hcells] at hu
  rw [← hu]; simp
 ·intro u hu
  simp only [TokV.cells, List.mem_cons, List.not_mem_nil, or_false] at hu
  rcases hu with rfl | rfl | rfl | rfl | rfl <;> rfl
 ·intro v' w' h1 h2 _
  refine hK v' w' ?_ (fun w0 h0 => ?_) ?_
  ·unfold OwnT; rw [tokCells_append, tokCells_one, List.length_append]; exact h1
  ·have hb : Below B w0 (w.alloc (.cells #[c0, c1, c2, c3, c4] 138)) := h0.alloc hB _
   refine hb.grown h2 (by simp; omega) ?_
   intro k hk
   exact (World.ownsRow.lt hown k hk).1
  ·have := h2.size; simp at this; omega
end
def RetSplit (s : ByteArray) (w : World) (e : Ending) (w' : World) : Prop :=
 ∃ v, e = .returned (.tuple #[v, qdi (splitL (bs s)).2]) ∧ Below w.heap.size w w' ∧ OwnT w' w.heap.size v ((splitL (bs s)).1.map (mkTok s))

theorem ret_split {s : ByteArray} {w w' : World} {x y v : Value} {c : Nat} {ts : List Tk} (hc : splitL (bs s) = (ts, c)) (h1 : x = v) (h2 : y = qdi c)
  (hb : Below w.heap.size w w') (ho : OwnT w' w.heap.size v (ts.map (mkTok s))) : RetSplit s w (.returned (.tuple #[x, y])) w' :=
 ⟨v, by rw [h1, h2, hc], hb, by rw [hc]; exact ho⟩

theorem split_any (s : ByteArray) (w : World) :
  Calls Tryz.prog 61 #[.string s] w (RetSplit s w) := by
 by_cases hbig : 65536 < s.size
 ·have hc : splitL (bs s) = ([], 4) := by unfold splitL; rw [qbg, if_pos hbig]
  have HC := qHd hc; clear hc
  go_enter Tryz.func61, Tryz.ntmps61
  go_wp2
  go_ret2
  exact ret_split HC.out rfl rfl (Below.refl _ _) (OwnT.nil _ _)
 have hs : s.size ≤ 9223372036854775806 := by omega
 have hc : splitL (bs s) = qca [] (qck (bs s) 0) := by unfold splitL; rw [qbg, if_neg hbig, joinScan_nil]
 have HC := qHd hc; clear hc
 go_enter Tryz.func61, Tryz.ntmps61
 go_wp2_with fail
 go_loopw [4, 5, 6, 7] (fun out line start at_ wr => ∃ (i : Nat) (ts : List Tk), i ≤ s.size ∧ at_ = .int .i64 i ∧ line = .int .i64 (lineOf (bs s) i : Nat) ∧ start = .int .i64 (qbk (bs s) i : Nat) ∧
   OwnT wr w.heap.size out (ts.map (mkTok s)) ∧ Below w.heap.size w wr ∧ ts.length ≤ i ∧ qca ts (qck (bs s) i) = qca [] (qck (bs s) 0)) (fun _ _ _ i _ => s.size - (intOf i).toNat)
 case atStart => exact ⟨0, [], Nat.zero_le _, rfl, by simp [lineOf], rfl, OwnT.nil _ _, Below.refl _ _, Nat.le_refl _, rfl⟩
 case round =>
  obtain ⟨i, ts, hi, rfl, rfl, rfl, hown, hbel, hlen, hj⟩ := hrel
  have HJ := qHd hj; clear hj
  have HO := qHd hown; clear hown
  have hls := lineStart_le (bs s) i
  have hll : lineOf (bs s) i ≤ i + 1 := by unfold lineOf; have := List.count_le_length (a := 10) (l := (bs s).take i); rw [List.length_take] at this; omega
  by_cases hlt : i < s.size
  ·have hix := qcs (P := Tryz.prog) s 9 Tryz.underlying9 i hlt
   have hlt' : i < (bs s).length := by rw [qbg]; exact hlt
   obtain ⟨b, hb⟩ : ∃ b, b = gd (bs s) i := ⟨_, rfl⟩
   have hb256 : b < 256 := by rw [hb]; exact bs_lt _ _
   rw [← hb] at hix
   rcases step_cases (bs s) i b hb with ⟨h1, h2, h3, h4⟩ | ⟨h1, h2, h3, h4⟩ | ⟨h1, h2, h3, h4⟩ | ⟨h1, h2, h3, h4, h5⟩ | ⟨h1, h2, h3, h4, h5⟩ | ⟨h1, h2, h3, h4, h5, h6⟩ | ⟨h1, h2, h3, h4, h5, h6⟩ | ⟨h1, h2, h3, h4, h5, h6⟩ | ⟨h1, h2, h3, h4, h5, h6⟩
   ·have H4 := qHd h4; have HB := qHd hb; have H3 := qHd h3; clear h4 hb h3
    go_wp2_with (go_at_call 93; (with_reducible refine (qdn b _ hb256).mono ?_); rintro e w' ⟨rfl, rfl⟩)
    go_roundw
    case rel => exact ⟨i + 1, ts, by omega, by go_num, by rw [lineOf_succ hlt', ← HB.out, if_pos H3.out]; rfl, by simp only [qbk]; rw [← HB.out, if_pos H3.out]; rfl, HO.out, hbel, by omega, by rw [← join_skip' ts hlt' H4.out]; exact HJ.out⟩
    case measure => simp [intOf]; omega
   ·have H4 := qHd h4; have HB := qHd hb; have H3 := qHd h3; clear h4 hb h3
    have HL := qHd (line_one hlt' (by rw [← HB.out]; exact H3.out))
    go_wp2_with (go_at_call 93; (with_reducible refine (qdn b _ hb256).mono ?_); rintro e w' ⟨rfl, rfl⟩)
    go_roundw
    case rel => exact ⟨i + 1, ts, by omega, by go_num, by rw [HL.out.1], by rw [HL.out.2], HO.out, hbel, by omega, by rw [← join_skip' ts hlt' H4.out]; exact HJ.out⟩
    case measure => simp [intOf]; omega
   ·have H4 := qHd h4; have HB := qHd hb; have H3 := qHd h3; clear h4 hb h3
    have HL := qHd (line_comment (l := bs s) (i := i) (by rw [qbg]; omega))
    have HR := qHd (hash_run hlt' (by rw [← HB.out]; exact H3.out))
    have hle := le_run notLF (bs s) (i + 1)
    have hge := run_le (p := notLF) (l := bs s) (k := i) (by rw [qbg]; omega)
    rw [qbg] at hge
    have hgt : i < run notLF (bs s) i := by rw [HR.out]; omega
    go_wp2_with (go_at_call 93; (with_reducible refine (qdn b _ hb256).mono ?_); rintro e w' ⟨rfl, rfl⟩)
    obtain ⟨wo, rfl⟩ : ∃ wo : World, wo = wr := ⟨_, rfl⟩
    go_loop [7] (fun x => ∃ j : Nat, i ≤ j ∧ j ≤ s.size ∧ x = .int .i64 j ∧ run notLF (bs s) j = run notLF (bs s) i) (fun x => s.size - (intOf x).toNat)
    case atStart => exact ⟨i, Nat.le_refl _, hi, rfl, rfl⟩
    case round =>
     obtain ⟨j, hij, hjs, rfl, hrun⟩ := hrel
     have HQ := qHd hrun; clear hrun
     by_cases hjlt : j < s.size
     ·have hjx := qcs (P := Tryz.prog) s 9 Tryz.underlying9 j hjlt
      by_cases hlf : gd (bs s) j = 10
      ·have h10 : ((gd (bs s) j : Int) != 10) = false := by simp [hlf]
       have HLF := qHd hlf; clear hlf
       go_wp2_with fail
       have e1 : run notLF (bs s) i = j := by rw [← HQ.out, run_no (by rw [HLF.out]; rfl)]
       go_roundw
       case rel => exact ⟨j, ts, hjs, rfl, by rw [← e1, HL.out.1], by rw [← e1, HL.out.2], HO.out, hbel, by omega, by rw [← e1, ← join_skip' ts hlt' H4.out]; exact HJ.out⟩
       case measure => simp [intOf]; omega
      ·have h10 : ((gd (bs s) j : Int) != 10) = true := by simp; omega
       have HLF := qHd hlf; clear hlf
       go_wp2_with fail
       go_round
       case rel => exact ⟨j + 1, by omega, by omega, by go_num, by rw [run_yes (by rw [qbg]; exact hjlt) (by simp [notLF, HLF.out])]; exact HQ.out⟩
       case measure => simp [intOf]; omega
     ·go_wp2_with fail
      have e1 : run notLF (bs s) i = j := by rw [← HQ.out, run_end (by rw [qbg]; omega)]
      go_roundw
      case rel => exact ⟨j, ts, hjs, rfl, by rw [← e1, HL.out.1], by rw [← e1, HL.out.2], HO.out, hbel, by omega, by rw [← e1, ← join_skip' ts hlt' H4.out]; exact HJ.out⟩
      case measure => simp [intOf]; omega
   ·have H5 := qHd h5; have HB := qHd hb; clear h5 hb
    have hle := le_run isIn (bs s) i
    have hge := run_le (p := isIn) (l := bs s) (k := i) (by rw [qbg]; omega)
    rw [qbg] at hge
    go_wp2_with (first | (go_at_call 93; (with_reducible refine (qdn b _ hb256).mono ?_); rintro e w' ⟨rfl, rfl⟩) | (go_at_call 94; (with_reducible refine (qcl b _ hb256).mono ?_); rintro e w' ⟨rfl, rfl⟩) | (go_at_call 95; (with_reducible refine (wordEnd_any s i _ hs hi).mono ?_); rintro e w' ⟨rfl, rfl⟩))
    go_ret2
    exact ret_split (c := 5) (ts := []) (by rw [HC.out, ← HJ.out, join_err' ts hlt' H5.out (by decide)]) rfl rfl hbel (OwnT.nil _ _)
   ·have H5 := qHd h5; have HB := qHd hb; clear h5 hb
    have HR := qHd (letter_run hlt' (by rw [← HB.out]; exact h3))
    have HL := qHd (line_word (l := bs s) (i := i) (by rw [qbg]; omega))
    have hle := le_run isIn (bs s) i
    have hgt : i < run isIn (bs s) i := by rw [HR.out]; exact le_run _ _ _
    have hge := run_le (p := isIn) (l := bs s) (k := i) (by rw [qbg]; omega)
    rw [qbg] at hge
    go_wp2_with (first | (go_at_call 93; (with_reducible refine (qdn b _ hb256).mono ?_); rintro e w' ⟨rfl, rfl⟩) | (go_at_call 94; (with_reducible refine (qcl b _ hb256).mono ?_); rintro e w' ⟨rfl, rfl⟩) | (go_at_call 95; (with_reducible refine (wordEnd_any s i _ hs hi).mono ?_); rintro e w' ⟨rfl, rfl⟩) | (at_builtin; refine wpList_appendT rfl (.tmp 100) (.tmp 113) rfl w.heap.size _ _ (mkTok s ⟨0, i, run isIn (bs s) i⟩) _ _ _ _ _ rfl rfl ?_ HO.out ?_ ?_ ?_))
    ·simp only [TokV.cells, mkTok, colOf]; rw [show ((i - qbk (bs s) i + 1 : Nat) : Int) = (i : Int) - qbk (bs s) i + 1 from by omega]; first | rfl | simp
    ·rw [List.length_map]; omega
    ·exact hbel.size
    intro v' w1 ho hb1 hz
    have hb2 := hb1 w hbel
    go_wp2_with fail
    go_roundw
    case rel => exact ⟨run isIn (bs s) i, ts ++ [⟨0, i, run isIn (bs s) i⟩], by omega, by go_num, by rw [HL.out.1], by rw [HL.out.2], by rw [List.map_append]; exact ho, hb2, by rw [List.length_append, List.length_singleton]; omega, by rw [← join_tok' ts hlt' H5.out (by decide)]; exact HJ.out⟩
    case measure => simp [intOf]; omega
   ·have H6 := qHd h6; have HB := qHd hb; clear h6 hb
    have hle := le_numEnd (bs s) i
    have hge := numEnd_le (l := bs s) (k := i) (by rw [qbg]; omega)
    rw [qbg] at hge h5
    obtain ⟨h7, h8⟩ := h5
    have hstop := numEnd_stop (l := bs s) (k := i) (by rw [qbg]; exact h7)
    have hjx := qcs (P := Tryz.prog) s 9 Tryz.underlying9 (qbw (bs s) i) h7
    rcases bad_cases (bs s) (qbw (bs s) i) _ rfl hstop with ⟨_, hc⟩ | ⟨hc, _⟩
    ·clear h8
     rcases hc with c1 | ⟨c1, c2⟩ | ⟨c1, c2, c3⟩ | ⟨c1, c2, c3, c4⟩
     all_goals
      go_wp2_with (first | (go_at_call 93; (with_reducible refine (qdn b _ hb256).mono ?_); rintro e w' ⟨rfl, rfl⟩) | (go_at_call 94; (with_reducible refine (qcl b _ hb256).mono ?_); rintro e w' ⟨rfl, rfl⟩) | (go_at_call 96; (with_reducible refine (qec b _ hb256).mono ?_); rintro e w' ⟨rfl, rfl⟩) | (go_at_call 97; (with_reducible refine (numberEnd_any s i _ hs hi).mono ?_); rintro e w' ⟨rfl, rfl⟩) | (go_at_call 94; (with_reducible refine (qcl _ _ (bs_lt _ _)).mono ?_); rintro e w' ⟨rfl, rfl⟩))
      go_ret2
      exact ret_split (c := 2) (ts := []) (by rw [HC.out, ← HJ.out, join_err' ts hlt' H6.out (by decide)]) rfl rfl hbel (OwnT.nil _ _)
    ·rw [hc] at h8; simp at h8
   ·have H6 := qHd h6; have HB := qHd hb; clear h6 hb
    have HL := qHd (line_number (l := bs s) (i := i) (by rw [qbg]; omega))
    have hgt : i < qbw (bs s) i := lt_numEnd hlt' (by rw [← HB.out]; exact h4)
    have hge := numEnd_le (l := bs s) (k := i) (by rw [qbg]; omega)
    rw [qbg] at hge h5
    by_cases h7 : qbw (bs s) i < s.size
    ·have h8 := h5 h7
     clear h5
     have hstop := numEnd_stop (l := bs s) (k := i) (by rw [qbg]; exact h7)
     have hjx := qcs (P := Tryz.prog) s 9 Tryz.underlying9 (qbw (bs s) i) h7
     rcases bad_cases (bs s) (qbw (bs s) i) _ rfl hstop with ⟨hc, _⟩ | ⟨_, c1, c2, c3, c4⟩
     ·rw [hc] at h8; simp at h8
     clear h8 hstop
     go_wp2_with (first | (go_at_call 93; (with_reducible refine (qdn b _ hb256).mono ?_); rintro e w' ⟨rfl, rfl⟩) | (go_at_call 94; (with_reducible refine (qcl b _ hb256).mono ?_); rintro e w' ⟨rfl, rfl⟩) | (go_at_call 96; (with_reducible refine (qec b _ hb256).mono ?_); rintro e w' ⟨rfl, rfl⟩) | (go_at_call 97; (with_reducible refine (numberEnd_any s i _ hs hi).mono ?_); rintro e w' ⟨rfl, rfl⟩) | (go_at_call 94; (with_reducible refine (qcl _ _ (bs_lt _ _)).mono ?_); rintro e w' ⟨rfl, rfl⟩) | (at_builtin; refine wpList_appendT rfl (.tmp 100) (.tmp 113) rfl w.heap.size _ _ (mkTok s ⟨1, i, qbw (bs s) i⟩) _ _ _ _ _ rfl rfl ?_ HO.out ?_ ?_ ?_))
     ·simp only [TokV.cells, mkTok, colOf]; rw [show ((i - qbk (bs s) i + 1 : Nat) : Int) = (i : Int) - qbk (bs s) i + 1 from by omega]; first | rfl | simp
     ·rw [List.length_map]; omega
     ·exact hbel.size
     intro v' w1 ho hb1 hz
     have hb2 := hb1 w hbel
     go_wp2_with fail
     go_roundw
     case rel => exact ⟨qbw (bs s) i, ts ++ [⟨1, i, qbw (bs s) i⟩], by omega, by go_num, by rw [HL.out.1], by rw [HL.out.2], by rw [List.map_append]; exact ho, hb2, by rw [List.length_append, List.length_singleton]; omega, by rw [← join_tok' ts hlt' H6.out (by decide)]; exact HJ.out⟩
     case measure => simp [intOf]; omega
    ·clear h5
     go_wp2_with (first | (go_at_call 93; (with_reducible refine (qdn b _ hb256).mono ?_); rintro e w' ⟨rfl, rfl⟩) | (go_at_call 94; (with_reducible refine (qcl b _ hb256).mono ?_); rintro e w' ⟨rfl, rfl⟩) | (go_at_call 96; (with_reducible refine (qec b _ hb256).mono ?_); rintro e w' ⟨rfl, rfl⟩) | (go_at_call 97; (with_reducible refine (numberEnd_any s i _ hs hi).mono ?_); rintro e w' ⟨rfl, rfl⟩) | (go_at_call 94; (with_reducible refine (qcl _ _ (bs_lt _ _)).mono ?_); rintro e w' ⟨rfl, rfl⟩) | (at_builtin; refine wpList_appendT rfl (.tmp 100) (.tmp 113) rfl w.heap.size _ _ (mkTok s ⟨1, i, qbw (bs s) i⟩) _ _ _ _ _ rfl rfl ?_ HO.out ?_ ?_ ?_))
     ·simp only [TokV.cells, mkTok, colOf]; rw [show ((i - qbk (bs s) i + 1 : Nat) : Int) = (i : Int) - qbk (bs s) i + 1 from by omega]; first | rfl | simp
     ·rw [List.length_map]; omega
     ·exact hbel.size
     intro v' w1 ho hb1 hz
     have hb2 := hb1 w hbel
     go_wp2_with fail
     go_roundw
     case rel => exact ⟨qbw (bs s) i, ts ++ [⟨1, i, qbw (bs s) i⟩], by omega, by go_num, by rw [HL.out.1], by rw [HL.out.2], by rw [List.map_append]; exact ho, hb2, by rw [List.length_append, List.length_singleton]; omega, by rw [← join_tok' ts hlt' H6.out (by decide)]; exact HJ.out⟩
     case measure => simp [intOf]; omega
   ·have H6 := qHd h6; have HB := qHd hb; clear h6 hb
    have HL := qHd (line_one hlt' (by rw [← HB.out]; exact isSign_ne h5))
    go_wp2_with (first | (go_at_call 93; (with_reducible refine (qdn b _ hb256).mono ?_); rintro e w' ⟨rfl, rfl⟩) | (go_at_call 94; (with_reducible refine (qcl b _ hb256).mono ?_); rintro e w' ⟨rfl, rfl⟩) | (go_at_call 96; (with_reducible refine (qec b _ hb256).mono ?_); rintro e w' ⟨rfl, rfl⟩) | (go_at_call 98; (with_reducible refine (tsign_any b _ hb256).mono ?_); rintro e w' ⟨rfl, rfl⟩) | (at_builtin; refine wpList_appendT rfl (.tmp 100) (.tmp 113) rfl w.heap.size _ _ (mkTok s ⟨2, i, (i + 1)⟩) _ _ _ _ _ rfl rfl ?_ HO.out ?_ ?_ ?_))
    ·simp only [TokV.cells, mkTok, colOf]; rw [show ((i - qbk (bs s) i + 1 : Nat) : Int) = (i : Int) - qbk (bs s) i + 1 from by omega]; first | rfl | simp
    ·rw [List.length_map]; omega
    ·exact hbel.size
    intro v' w1 ho hb1 hz
    have hb2 := hb1 w hbel
    go_wp2_with fail
    go_roundw
    case rel => exact ⟨(i + 1), ts ++ [⟨2, i, (i + 1)⟩], by omega, by go_num, by rw [HL.out.1], by rw [HL.out.2], by rw [List.map_append]; exact ho, hb2, by rw [List.length_append, List.length_singleton]; omega, by rw [← join_tok' ts hlt' H6.out (by decide)]; exact HJ.out⟩
    case measure => simp [intOf]; omega
   ·have H6 := qHd h6; have HB := qHd hb; clear h6 hb
    go_wp2_with (first | (go_at_call 93; (with_reducible refine (qdn b _ hb256).mono ?_); rintro e w' ⟨rfl, rfl⟩) | (go_at_call 94; (with_reducible refine (qcl b _ hb256).mono ?_); rintro e w' ⟨rfl, rfl⟩) | (go_at_call 96; (with_reducible refine (qec b _ hb256).mono ?_); rintro e w' ⟨rfl, rfl⟩) | (go_at_call 98; (with_reducible refine (tsign_any b _ hb256).mono ?_); rintro e w' ⟨rfl, rfl⟩))
    go_ret2
    exact ret_split (c := 2) (ts := []) (by rw [HC.out, ← HJ.out, join_err' ts hlt' H6.out (by decide)]) rfl rfl hbel (OwnT.nil _ _)
  ·go_wp2_with fail
   go_ret2
   exact ret_split (c := 0) (ts := ts) (by rw [HC.out, ← HJ.out, join_end ts (by rw [qbg]; omega)]) rfl rfl hbel HO.out
structure Rd (w : World) (gr gt n c : Nat) (ts : List (Int × ByteArray)) (i : Nat) : Prop where
 cells : w.heap[gr]? = some (.cells #[.slice (some ⟨gt, 0, none⟩) n c, .int .i64 i, .nilIface] 82)
 len : ts.length = n
 cap : n ≤ c ∧ c ≤ 9223372036854775807
 ne : gt ≠ gr
 tok : ∀ (j : Nat) (k : Int) (s : ByteArray), ts[j]? = some (k, s) → w.cell? ⟨gt, j * 5, none⟩ = some (.int .i64 k) ∧ w.cell? ⟨gt, j * 5 + 1, none⟩ = some (.string s)
theorem Rd.below {w w' : World} {gr gt n c i : Nat} {ts : List (Int × ByteArray)} (h : Rd w gr gt n c ts i) (hb : Below w.heap.size w w') : Rd w' gr gt n c ts i :=
 ⟨qaa h.cells hb, h.len, h.cap, h.ne, fun j k s q => ⟨qap (h.tok j k s q).1 hb, qap (h.tok j k s q).2 hb⟩⟩
theorem is_rd (w : World) (gr gt n c i : Nat) (ts : List (Int × ByteArray)) (k : Int) (s t : ByteArray) (b : Bool) (h : Rd w gr gt n c ts i) (hi : ts[i]? = some (k, s)) (hk : k ≠ 1) (hb : (s.toList == t.toList) = b) :
  Calls Tryz.prog 37 #[.pointer (some ⟨gr, 0, none⟩), .string t] w (qcc w (.bool b)) := by
 have H := qHd h; clear h
 obtain ⟨x0, x1, x2⟩ := qaq H.out.cells
 obtain ⟨y0, y1⟩ := H.out.tok i k s hi
 have hlt : i < n := by rw [← H.out.len]; exact (List.getElem?_eq_some_iff.1 hi).1
 have hltz : (i : Int) < (n : Int) := by omega
 have hkz : (k != 1) = true := bne_iff_ne.2 hk
 go_enter Tryz.func37, Tryz.ntmps37
 go_wp2_with (with_reducible refine qax ?_)
 refine qad.mk ?_
 go_quiet (fail)
 go_wp2_with fail
 go_ret
 exact ⟨rfl, qcp (Below.refl _ _) _⟩
theorem kind_rd (w : World) (gr gt n c i : Nat) (ts : List (Int × ByteArray)) (k kk : Int) (s : ByteArray) (b : Bool) (h : Rd w gr gt n c ts i) (hi : ts[i]? = some (k, s)) (hb : (k == kk) = b) :
  Calls Tryz.prog 63 #[.pointer (some ⟨gr, 0, none⟩), .int .i64 kk] w (qcc w (.bool b)) := by
 have H := qHd h; clear h
 obtain ⟨x0, x1, x2⟩ := qaq H.out.cells
 obtain ⟨y0, y1⟩ := H.out.tok i k s hi
 have hlt : i < n := by rw [← H.out.len]; exact (List.getElem?_eq_some_iff.1 hi).1
 have hltz : (i : Int) < (n : Int) := by omega
 go_enter Tryz.func63, Tryz.ntmps63
 go_wp2_with (with_reducible refine qax ?_)
 refine qad.mk ?_
 go_quiet (fail)
 go_wp2_with fail
 go_ret
 exact ⟨rfl, qcp (Below.refl _ _) _⟩
theorem Rd.next {w w' : World} {gr gt n c i : Nat} {ts : List (Int × ByteArray)} (h : Rd w gr gt n c ts i) (hp : w' = putL w gr 1 [.int .i64 ((i : Int) + 1)]) : Rd w' gr gt n c ts (i + 1) :=
 ⟨by rw [hp]; simp [putL, World.setCell, Array.getElem?_modify, h.cells], h.len, h.cap, h.ne, fun j k s q => ⟨(Exc.put (X := [gr]) hp (List.mem_singleton.2 rfl)).cell (h.tok j k s q).1 (by simp; exact h.ne), (Exc.put (X := [gr]) hp (List.mem_singleton.2 rfl)).cell (h.tok j k s q).2 (by simp; exact h.ne)⟩⟩
def RetTk (w : World) (gr gt n c i : Nat) (ts : List (Int × ByteArray)) (v : Value) (e : Ending) (w' : World) : Prop := e = .returned v ∧ Exc w w' [gr] ∧ Rd w' gr gt n c ts (i + 1)
theorem take_rd (w : World) (gr gt n c i : Nat) (ts : List (Int × ByteArray)) (k : Int) (s : ByteArray) (h : Rd w gr gt n c ts i) (hi : ts[i]? = some (k, s)) (hn : n ≤ 1000000) :
  Calls Tryz.prog 62 #[.pointer (some ⟨gr, 0, none⟩), .bool true] w (RetTk w gr gt n c i ts (.string s)) := by
 have H := qHd h; clear h
 obtain ⟨x0, x1, x2⟩ := qaq H.out.cells
 obtain ⟨y0, y1⟩ := H.out.tok i k s hi
 have hlt : i < n := by rw [← H.out.len]; exact (List.getElem?_eq_some_iff.1 hi).1
 have hltz : (i : Int) < (n : Int) := by omega
 have hne : (((i : Nat) : Int) == ((n : Nat) : Int)) = false := by rw [beq_eq_false_iff_ne]; omega
 go_enter Tryz.func62, Tryz.ntmps62
 go_wp2_with (with_reducible refine qax ?_)
 refine qad.mk ?_
 go_quiet (fail)
 generalize hW : World.drewN w _ = W1
 have HB1 := qHd (show Below w.heap.size w W1 by rw [← hW]; exact qcp (Below.refl _ _) _)
 have H1 := qHd (H.out.below HB1.out)
 clear hW x0 x1 x2 y0 y1
 obtain ⟨x0, x1, x2⟩ := qaq H1.out.cells
 go_wp2_with (with_reducible refine qaf 3 ?_)
 refine qds gr 1 H1.out.cells rfl rfl (by simp) (by kernel_rfl) ?_
 intro w2 hp
 have H2 := qHd (H1.out.next hp)
 have EX := qHd ((Exc.of_below (X := [gr]) HB1.out).trans (Exc.put (X := [gr]) hp (List.mem_singleton.2 rfl)))
 clear hp x0 x1 x2
 obtain ⟨x0, x1, x2⟩ := qaq H2.out.cells
 obtain ⟨y0, y1⟩ := H2.out.tok i k s hi
 go_wp2_with (with_reducible refine qax ?_)
 refine qad.mk ?_
 go_quiet (fail)
 generalize hW : World.drewN w2 _ = W3
 have HB3 := qHd (show Below w2.heap.size w2 W3 by rw [← hW]; exact qcp (Below.refl _ _) _)
 clear hW x0 x1 x2 y0 y1
 go_wp2_with fail
 go_ret
 exact ⟨rfl, EX.out.trans (Exc.of_below HB3.out), H2.out.below HB3.out⟩
theorem word_rd (w : World) (gr gt n c i : Nat) (ts : List (Int × ByteArray)) (s : ByteArray) (h : Rd w gr gt n c ts i) (hi : ts[i]? = some (0, s)) (hn : n ≤ 1000000) :
  Calls Tryz.prog 36 #[.pointer (some ⟨gr, 0, none⟩)] w (RetTk w gr gt n c i ts (.string s)) := by
 have HK := qHd (kind_rd w gr gt n c i ts 0 0 s true h hi rfl)
 have H := qHd h; clear h
 go_enter Tryz.func36, Tryz.ntmps36
 go_wp2_with (with_reducible refine qac ?_)
 refine qad.mk ?_
 (with_reducible refine HK.out.mono ?_); rintro e w1 ⟨rfl, hb1⟩
 have H1 := qHd (H.out.below hb1); have HB1 := qHd hb1
 clear hb1 HK
 have HK := qHd (take_rd w1 gr gt n c i ts 0 s H1.out hi hn)
 go_wp2_with (with_reducible refine qac ?_)
 refine qad.mk ?_
 (with_reducible refine HK.out.mono ?_); rintro e w2 ⟨rfl, hx, hr⟩
 have HX := qHd hx; have HR := qHd hr
 clear hx hr HK
 go_wp2_with fail
 go_ret
 exact ⟨rfl, (Exc.of_below HB1.out).trans HX.out, HR.out⟩
theorem expect_rd (w : World) (gr gt n c i : Nat) (ts : List (Int × ByteArray)) (k : Int) (s t : ByteArray) (h : Rd w gr gt n c ts i) (hi : ts[i]? = some (k, s)) (hk : k ≠ 1) (hb : (s.toList == t.toList) = true) (hn : n ≤ 1000000) :
  Calls Tryz.prog 35 #[.pointer (some ⟨gr, 0, none⟩), .string t] w (RetTk w gr gt n c i ts (.tuple #[])) := by
 have HK := qHd (is_rd w gr gt n c i ts k s t true h hi hk hb)
 have H := qHd h; clear h
 go_enter Tryz.func35, Tryz.ntmps35
 go_wp2_with (with_reducible refine qac ?_)
 refine qad.mk ?_
 (with_reducible refine HK.out.mono ?_); rintro e w1 ⟨rfl, hb1⟩
 have H1 := qHd (H.out.below hb1); have HB1 := qHd hb1
 clear hb1 HK
 have HK := qHd (take_rd w1 gr gt n c i ts k s H1.out hi hn)
 go_wp2_with (with_reducible refine qac ?_)
 refine qad.mk ?_
 (with_reducible refine HK.out.mono ?_); rintro e w2 ⟨rfl, hx, hr⟩
 have HX := qHd hx; have HR := qHd hr
 clear hx hr HK
 go_wp2_with fail
 refine bodyPost_ret (results_none rfl _ _ _) rfl ?_
 exact ⟨rfl, (Exc.of_below HB1.out).trans HX.out, HR.out⟩
theorem input_rd (w : World) (gr gt n c i : Nat) (ts : List (Int × ByteArray)) (s : ByteArray) (h : Rd w gr gt n c ts i) (hi : ts[i]? = some (0, s)) (hb : (s.toList == (⟨#[64]⟩ : ByteArray).toList) = false) (hn : n ≤ 1000000) :
  Calls Tryz.prog 39 #[.pointer (some ⟨gr, 0, none⟩)] w (RetTk w gr gt n c i ts (.string s)) := by
 have HK := qHd (is_rd w gr gt n c i ts 0 s ⟨#[64]⟩ false h hi (by decide) hb)
 have H := qHd h; clear h
 go_enter Tryz.func39, Tryz.ntmps39
 go_wp2_with (with_reducible refine qac ?_)
 refine qad.mk ?_
 (with_reducible refine HK.out.mono ?_); rintro e w1 ⟨rfl, hb1⟩
 have H1 := qHd (H.out.below hb1); have HB1 := qHd hb1
 clear hb1 HK
 have HK := qHd (word_rd w1 gr gt n c i ts s H1.out hi hn)
 go_wp2_with (with_reducible refine qac ?_)
 refine qad.mk ?_
 (with_reducible refine HK.out.mono ?_); rintro e w2 ⟨rfl, hx, hr⟩
 have HX := qHd hx; have HR := qHd hr
 clear hx hr HK
 go_wp2_with fail
 go_ret
 exact ⟨rfl, (Exc.of_below HB1.out).trans HX.out, HR.out⟩
theorem end_rd (w : World) (gr gt n c : Nat) (ts : List (Int × ByteArray)) (h : Rd w gr gt n c ts n) :
  Calls Tryz.prog 40 #[.pointer (some ⟨gr, 0, none⟩)] w (qcc w .nilIface) := by
 obtain ⟨x0, x1, x2⟩ := qaq h.cells
 have H := qHd h; clear h
 go_enter Tryz.func40, Tryz.ntmps40
 go_wp2_with (with_reducible refine qax ?_)
 refine qad.mk ?_
 go_quiet (fail)
 generalize hW : World.drewN w _ = W1
 have HB1 := qHd (show Below w.heap.size w W1 by rw [← hW]; exact qcp (Below.refl _ _) _)
 have H1 := qHd (H.out.below HB1.out)
 clear hW x0 x1 x2
 obtain ⟨x0, x1, x2⟩ := qaq H1.out.cells
 go_wp2_with fail
 go_ret
 exact ⟨rfl, HB1.out⟩
def tkP (s : ByteArray) (l : List Tk) : List (Int × ByteArray) := l.map fun t => ((mkTok s t).kind, (mkTok s t).text)
def RetBg (s : ByteArray) (w : World) (e : Ending) (w' : World) : Prop :=
 ∃ gr gt c : Nat, e = .returned (.tuple #[.pointer (some ⟨gr, 0, none⟩), .nilIface]) ∧ Below w.heap.size w w' ∧ w.heap.size ≤ gr ∧ gr < w'.heap.size ∧ w.heap.size ≤ gt ∧ Rd w' gr gt (splitL (bs s)).1.length c (tkP s (splitL (bs s)).1) 0
theorem begin_any (s : ByteArray) (w : World) (h0 : (splitL (bs s)).2 = 0) (hn : (splitL (bs s)).1 ≠ []) :
  Calls Tryz.prog 34 #[.string s] w (RetBg s w) := by
 have HK := qHd (split_any s w)
 obtain ⟨tl, htl⟩ : ∃ l, l = (splitL (bs s)).1 := ⟨_, rfl⟩
 rw [← htl] at hn
 have HTL := qHd htl; clear htl
 have H0 := qHd h0; clear h0
 go_enter Tryz.func34, Tryz.ntmps34
 go_wp2_with (with_reducible refine qac ?_)
 refine qad.mk ?_
 (with_reducible refine HK.out.mono ?_); rintro e w1 ⟨v, rfl, hb1, ho⟩
 rw [H0.out, qce]
 rw [← HTL.out] at ho
 have hpos : 0 < tl.length := List.length_pos_iff.2 hn
 obtain ⟨ao, c, rfl, hc1, hc2, _⟩ := qaz ho
 obtain ⟨gt, rfl, hg0, hg1, _, _, hcell⟩ := qbt ho rfl (by rw [List.length_map]; exact hpos)
 rw [List.length_map] at hc1 ⊢
 obtain ⟨W, hw2⟩ : ∃ z0, z0 = w1.alloc (.cells #[.slice (some ⟨gt, 0, none⟩) tl.length c, .int .i64 0, .nilIface] 82) := ⟨_, rfl⟩
 have hb2 : Below w1.heap.size w1 W := by rw [hw2]; exact qBA _ _
 obtain ⟨gr, hg2⟩ : ∃ g, g = w1.heap.size := ⟨_, rfl⟩
 have hx2 : W.heap[gr]? = some (.cells #[.slice (some ⟨gt, 0, none⟩) tl.length c, .int .i64 0, .nilIface] 82) := by rw [hw2, hg2]; exact heap_alloc_new _ _
 have hs2 : W.heap.size = w1.heap.size + 1 := by rw [hw2]; simp
 have HB1 := qHd hb1
 go_wp2_with fail
 rw [← hw2, ← hg2]
 go_ret2
 have hg1' := hg1
 refine ⟨gr, gt, c, rfl, hb1.trans (hb2.mono hb1.size), by rw [hg2]; exact hb1.size, by omega, hg0, ?_⟩
 rw [← HTL.out]
 refine ⟨hx2, by rw [tkP, List.length_map], ⟨by simpa using hc1, hc2⟩, by omega, ?_⟩
 intro j k t hj
 rw [tkP, List.getElem?_map] at hj
 cases hq : tl[j]? with
 | none => rw [hq] at hj; cases hj
 | some x =>
  rw [hq] at hj
  simp only [Option.map_some, Option.some.injEq, Prod.mk.injEq] at hj
  obtain ⟨h1, h2⟩ := hj
  have hm : (tl.map (mkTok s))[j]? = some (mkTok s x) := by rw [List.getElem?_map, hq]; rfl
  have a0 := hcell (j * 5 + 0) _ ((tokCells_at _ j 0 _ hm (by decide)).trans rfl)
  have a1 := hcell (j * 5 + 1) _ ((tokCells_at _ j 1 _ hm (by decide)).trans rfl)
  rw [Nat.add_zero, h1] at a0
  rw [h2] at a1
  exact ⟨qap a0 hb2, qap a1 hb2⟩
def txt : ByteArray := ⟨#[109, 111, 100, 101, 108, 32, 109, 59, 32, 101, 118, 101, 110, 116, 32, 97, 59, 32, 101, 118, 101, 110, 116, 32, 98, 59, 32, 103, 97, 116, 101, 32, 103, 32, 97, 110, 100, 32, 97, 32, 98, 59, 32, 116, 111, 112, 32, 103, 59]⟩
def txtT : List (Int × ByteArray) := [(0, ⟨#[109, 111, 100, 101, 108]⟩), (0, ⟨#[109]⟩), (2, ⟨#[59]⟩), (0, ⟨#[101, 118, 101, 110, 116]⟩), (0, ⟨#[97]⟩), (2, ⟨#[59]⟩), (0, ⟨#[101, 118, 101, 110, 116]⟩), (0, ⟨#[98]⟩), (2, ⟨#[59]⟩), (0, ⟨#[103, 97, 116, 101]⟩), (0, ⟨#[103]⟩), (0, ⟨#[97, 110, 100]⟩), (0, ⟨#[97]⟩), (0, ⟨#[98]⟩), (2, ⟨#[59]⟩), (0, ⟨#[116, 111, 112]⟩), (0, ⟨#[103]⟩), (2, ⟨#[59]⟩)]
theorem txt_split : (splitL (bs txt)).2 = 0 := by kernel_rfl
theorem txt_ne : (splitL (bs txt)).1 ≠ [] := by
 have h : (splitL (bs txt)).1.length = 18 := by kernel_rfl
 intro e; rw [e] at h; cases h
theorem txt_len : (splitL (bs txt)).1.length = 18 := by kernel_rfl
theorem txt_tok : tkP txt (splitL (bs txt)).1 = txtT := by kernel_rfl
theorem event_rd (w : World) (gr gt n c i : Nat) (ts : List (Int × ByteArray)) (s : ByteArray) (h : Rd w gr gt n c ts i) (hi : ts[i]? = some (0, s)) (h2 : ts[i + 1]? = some (2, ⟨#[59]⟩)) (hn : n ≤ 1000000) :
  Calls Tryz.prog 64 #[.pointer (some ⟨gr, 0, none⟩)] w (fun e w' => RetTk w gr gt n c (i + 1) ts (.agg #[.string s, .bool false, .slice none 0 0, .slice none 0 0, .bool false, .slice none 0 0, .slice none 0 0, .bool false, .slice none 0 0, .slice none 0 0, .int .i64 0]) e w') := by
 obtain ⟨w0, hw0⟩ : ∃ z0, z0 = w.alloc (.cells #[.string ⟨#[]⟩, .bool false, .slice none 0 0, .slice none 0 0, .bool false, .slice none 0 0, .slice none 0 0, .bool false, .slice none 0 0, .slice none 0 0, .int .i64 0] 101) := ⟨_, rfl⟩
 have hb0 : Below w.heap.size w w0 := by rw [hw0]; exact qBA _ _
 obtain ⟨g2, hg0⟩ : ∃ g, g = w.heap.size := ⟨_, rfl⟩
 have hx0 : w0.heap[g2]? = some (.cells #[.string ⟨#[]⟩, .bool false, .slice none 0 0, .slice none 0 0, .bool false, .slice none 0 0, .slice none 0 0, .bool false, .slice none 0 0, .slice none 0 0, .int .i64 0] 101) := by rw [hw0, hg0]; exact heap_alloc_new _ _
 have hs0 : w0.heap.size = w.heap.size + 1 := by rw [hw0]; simp
 have H0 := qHd (h.below hb0); have G0 := qHd hx0; have B0 := qHd hb0
 have GN := qHd (show g2 ≠ gr from fun e => by have := qao h.cells; omega)
 have LG := qHd (show w.heap.size ≤ g2 by omega)
 have GT := qHd (show gt ≠ g2 from fun e => by have := World.block_lt_of_cell? _ _ (h.tok i 0 s hi).1; simp only at this; omega)
 clear hb0 hx0 hs0 h
 have HK := qHd (word_rd w0 gr gt n c i ts s H0.out hi hn)
 go_enter Tryz.func64, Tryz.ntmps64
 go_wp2_with (with_reducible refine qac ?_)
 rw [← hw0, ← hg0]
 clear hw0 hg0
 refine qad.mk ?_
 (with_reducible refine HK.out.mono ?_); rintro e w1 ⟨rfl, hx, hr⟩
 have X1 := qHd hx; have H1 := qHd hr
 clear hx hr HK
 obtain ⟨w2, hw1⟩ : ∃ z0, z0 = w1.alloc (.cells #[.string s, .bool false, .slice none 0 0, .slice none 0 0, .bool false, .slice none 0 0, .slice none 0 0, .bool false, .slice none 0 0, .slice none 0 0, .int .i64 0] 101) := ⟨_, rfl⟩
 have hb1 : Below w1.heap.size w1 w2 := by rw [hw1]; exact qBA _ _
 obtain ⟨g3, hg1⟩ : ∃ g, g = w1.heap.size := ⟨_, rfl⟩
 have hx1 : w2.heap[g3]? = some (.cells #[.string s, .bool false, .slice none 0 0, .slice none 0 0, .bool false, .slice none 0 0, .slice none 0 0, .bool false, .slice none 0 0, .slice none 0 0, .int .i64 0] 101) := by rw [hw1, hg1]; exact heap_alloc_new _ _
 have hs1 : w2.heap.size = w1.heap.size + 1 := by rw [hw1]; simp
 have H2 := qHd (H1.out.below hb1); have G3 := qHd hx1; have B2 := qHd hb1; have G02 := qHd (qaa (X1.out.heap G0.out (by simp; exact GN.out)) hb1)
 clear hb1 hx1 hs1
 obtain ⟨w3, hw3⟩ : ∃ z0, z0 = w2.alloc (.map #[] 0) := ⟨_, rfl⟩
 have hb3 : Below w2.heap.size w2 w3 := by rw [hw3]; exact qBA _ _
 obtain ⟨gm, hg3⟩ : ∃ g, g = w2.heap.size := ⟨_, rfl⟩
 have H3 := qHd (H2.out.below hb3); have G33 := qHd (qaa G3.out hb3); have G03 := qHd (qaa G02.out hb3); have B3 := qHd (B2.out.trans (hb3.mono B2.out.size))
 clear hb3
 have NG := qHd (show g3 ≠ gr ∧ g3 ≠ g2 ∧ w.heap.size ≤ g3 from ⟨fun e => by have := qao H1.out.cells; omega, fun e => by have := qao (X1.out.heap G0.out (by simp; exact GN.out)); omega, by have := X1.out.size; have := B0.out.size; omega⟩)
 have hmm := @run_makeMap Tryz.prog
 go_wp2_with (with_reducible first | refine qah ?_ | refine qae ?_)
 rw [← hw1, ← hg1, ← hw3]
 clear hmm
 refine qad.mk ?_
 go_loopw [5] (fun _ wx => Hid (Below w3.heap.size w3 wx)) (fun _ _ => 0)
 case atStart => exact qHd (Below.refl _ _)
 case round =>
  have HBX := hrel; clear hrel
  obtain ⟨w4, rfl⟩ : ∃ w4 : World, w4 = wr := ⟨_, rfl⟩
  clear hw1 hg1 hw3 hg3
  have H4 := qHd (H3.out.below HBX.out); have G34 := qHd (qaa G33.out HBX.out); have G04 := qHd (qaa G03.out HBX.out); have B4 := qHd (B3.out.trans (HBX.out.mono B3.out.size))
  have HK := qHd (is_rd w4 gr gt n c (i + 1) ts 2 ⟨#[59]⟩ ⟨#[59]⟩ true H4.out h2 (by decide) (by kernel_rfl))
  obtain ⟨x0, x1, x2⟩ := qaq H4.out.cells
  go_wp2_with (with_reducible refine qac ?_)
  clear x0 x1 x2
  refine qad.mk ?_
  (with_reducible refine HK.out.mono ?_); rintro e w5 ⟨rfl, hb5⟩
  have H5 := qHd (H4.out.below hb5); have G35 := qHd (qaa G34.out hb5); have G05 := qHd (qaa G04.out hb5); have B5 := qHd (B4.out.trans (hb5.mono B4.out.size))
  clear hb5 HK
  have HK := qHd (expect_rd w5 gr gt n c (i + 1) ts 2 ⟨#[59]⟩ ⟨#[59]⟩ H5.out h2 (by decide) (by kernel_rfl) hn)
  go_wp2_with (with_reducible refine qac ?_)
  refine qad.mk ?_
  (with_reducible refine HK.out.mono ?_); rintro e w6 ⟨rfl, hx, hr⟩
  have X6 := qHd hx; have H6 := qHd hr; have G36 := qHd (hx.heap G35.out (by simp; exact NG.out.1)); have G06 := qHd (hx.heap G05.out (by simp; exact GN.out))
  clear hx hr HK
  have x0 : w6.cell? ⟨g3, 0, none⟩ = some (.string s) := cell_of_row _ _ _ _ _ _ G36.out
  have x1 : w6.cell? ⟨g3, 1, none⟩ = some (.bool false) := cell_of_row _ _ _ _ _ _ G36.out
  have x2 : w6.cell? ⟨g3, 2, none⟩ = some (.slice none 0 0) := cell_of_row _ _ _ _ _ _ G36.out
  have x3 : w6.cell? ⟨g3, 3, none⟩ = some (.slice none 0 0) := cell_of_row _ _ _ _ _ _ G36.out
  have x4 : w6.cell? ⟨g3, 4, none⟩ = some (.bool false) := cell_of_row _ _ _ _ _ _ G36.out
  have x5 : w6.cell? ⟨g3, 5, none⟩ = some (.slice none 0 0) := cell_of_row _ _ _ _ _ _ G36.out
  have x6 : w6.cell? ⟨g3, 6, none⟩ = some (.slice none 0 0) := cell_of_row _ _ _ _ _ _ G36.out
  have x7 : w6.cell? ⟨g3, 7, none⟩ = some (.bool false) := cell_of_row _ _ _ _ _ _ G36.out
  have x8 : w6.cell? ⟨g3, 8, none⟩ = some (.slice none 0 0) := cell_of_row _ _ _ _ _ _ G36.out
  have x9 : w6.cell? ⟨g3, 9, none⟩ = some (.slice none 0 0) := cell_of_row _ _ _ _ _ _ G36.out
  have x10 : w6.cell? ⟨g3, 10, none⟩ = some (.int .i64 0) := cell_of_row _ _ _ _ _ _ G36.out
  go_wp2_with (with_reducible refine qaf 101 ?_)
  clear x0 x1 x2 x3 x4 x5 x6 x7 x8 x9 x10
  refine qbj g2 0 [.string s, .bool false, .slice none 0 0, .slice none 0 0, .bool false, .slice none 0 0, .slice none 0 0, .bool false, .slice none 0 0, .slice none 0 0, .int .i64 0] G06.out rfl rfl (Nat.le_of_ble_eq_true rfl) (by kernel_rfl) rfl ?_
  intro w7 hp
  have G7 := qHd (show w7.heap[g2]? = some (.cells #[.string s, .bool false, .slice none 0 0, .slice none 0 0, .bool false, .slice none 0 0, .slice none 0 0, .bool false, .slice none 0 0, .slice none 0 0, .int .i64 0] 101) by rw [hp]; simp [putL, World.setCell, Array.getElem?_modify, G06.out])
  have X7 := qHd (Exc.put (X := [g2]) hp (List.mem_singleton.2 rfl))
  clear hp
  go_wp2_with fail
  refine ret_c1v rfl g2 #[.string s, .bool false, .slice none 0 0, .slice none 0 0, .bool false, .slice none 0 0, .slice none 0 0, .bool false, .slice none 0 0, .slice none 0 0, .int .i64 0] rfl G7.out Tryz.underlying101 rfl (by kernel_rfl) rfl ?_
  refine ⟨rfl, ?_, ?_⟩
  ·have e1 : Exc w w1 [gr] := (Exc.of_below B0.out).trans X1.out
   have e5 : Exc w w5 [gr] := e1.trans (Exc.of_below B5.out)
   have e6 : Exc w w6 [gr] := e5.trans X6.out
   exact (e6.mono (Y := [gr, g2]) (fun g hg => .inl (by simp at hg; simp [hg]))).trans (X7.out.mono (fun g hg => .inl (by simp at hg; simp [hg]))) |>.mono (fun g hg => by
    simp only [List.mem_cons, List.not_mem_nil, or_false] at hg
    rcases hg with rfl | rfl
    ·exact .inl (by simp)
    ·exact .inr LG.out)
  ·exact ⟨X7.out.heap H6.out.cells (by simp; exact GN.out.symm), H6.out.len, H6.out.cap, H6.out.ne, fun j k t q => ⟨X7.out.cell (H6.out.tok j k t q).1 (by simp; exact GT.out), X7.out.cell (H6.out.tok j k t q).2 (by simp; exact GT.out)⟩⟩
theorem gateKind_and (w : World) : Calls Tryz.prog 101 #[.string ⟨#[97, 110, 100]⟩] w (RetS w (.tuple #[.int .i64 0, .bool true])) := by
 go_enter Tryz.func101, Tryz.ntmps101
 go_wp2
 go_ret2
 exact ⟨rfl, rfl⟩
theorem row7a {w : World} {g : Nat} {a b c d e f h : Value} {T : TypeId} (q : w.heap[g]? = some (.cells #[a, b, c, d, e, f, h] T)) : w.cell? ⟨g, 1, none⟩ = some b ∧ w.cell? ⟨g, 3, none⟩ = some d ∧ w.cell? ⟨g, 0, none⟩ = some a :=
 ⟨cell_of_row _ _ _ _ _ _ q, cell_of_row _ _ _ _ _ _ q, cell_of_row _ _ _ _ _ _ q⟩
theorem Rd.exc {w w' : World} {gr gt n c i : Nat} {ts : List (Int × ByteArray)} {X : List Nat} (h : Rd w gr gt n c ts i) (e : Exc w w' X) (h1 : gr ∉ X) (h2 : gt ∉ X) : Rd w' gr gt n c ts i :=
 ⟨e.heap h.cells h1, h.len, h.cap, h.ne, fun j k s q => ⟨e.cell (h.tok j k s q).1 h2, e.cell (h.tok j k s q).2 h2⟩⟩
theorem Rd.tlt {w : World} {gr gt n c i j : Nat} {ts : List (Int × ByteArray)} {k : Int} {s : ByteArray} (h : Rd w gr gt n c ts i) (q : ts[j]? = some (k, s)) : gt < w.heap.size := World.block_lt_of_cell? _ _ (h.tok j k s q).1
theorem Exc.next {w w1 w2 : World} {X Y : List Nat} (h : Exc w w1 X) (k : Exc w1 w2 Y) (hs : ∀ g ∈ Y, g ∈ X ∨ w.heap.size ≤ g) : Exc w w2 X :=
 ⟨k.os.trans h.os, k.tape.trans h.tape, k.output.trans h.output, Nat.le_trans h.size k.size, fun i hi hn => (k.block i (Nat.lt_of_lt_of_le hi h.size) (fun hy => by
  rcases hs i hy with q | q
  ·exact hn q
  ·omega)).trans (h.block i hi hn)⟩
theorem Tryz.strTyK : qdj Tryz.prog 105 9 (.string ⟨#[]⟩) 1 16 := .mk' Tryz.underlying105 (by kernel_rfl)
def RetGa (w : World) (gr gt n c i : Nat) (ts : List (Int × ByteArray)) (s sa sb : ByteArray) (e : Ending) (w' : World) : Prop :=
 ∃ gi ci : Nat, e = .returned (.agg #[.string s, .int .i64 0, .int .i64 0, .slice (some ⟨gi, 0, none⟩) 2 ci, .bool false, .slice none 0 0, .slice none 0 0]) ∧ Exc w w' [gr] ∧ Rd w' gr gt n c ts (i + 5) ∧ w.heap.size ≤ gi ∧ gi < w'.heap.size ∧ 2 ≤ ci ∧ ci ≤ 9223372036854775807 ∧ w'.cell? ⟨gi, 0, none⟩ = some (.string sa) ∧ w'.cell? ⟨gi, 1, none⟩ = some (.string sb)
theorem gate_rd (w : World) (gr gt n c i : Nat) (ts : List (Int × ByteArray)) (s sa sb : ByteArray) (h : Rd w gr gt n c ts i) (hi : ts[i]? = some (0, s)) (h2 : ts[i + 1]? = some (0, ⟨#[97, 110, 100]⟩)) (h3 : ts[i + 2]? = some (0, sa)) (h4 : ts[i + 3]? = some (0, sb)) (h5 : ts[i + 4]? = some (2, ⟨#[59]⟩)) (hn : n ≤ 1000000)
  (qa1 : (sa.toList == (⟨#[59]⟩ : ByteArray).toList) = false) (qa2 : (sa.toList == (⟨#[64]⟩ : ByteArray).toList) = false) (qb1 : (sb.toList == (⟨#[59]⟩ : ByteArray).toList) = false) (qb2 : (sb.toList == (⟨#[64]⟩ : ByteArray).toList) = false) :
  Calls Tryz.prog 66 #[.pointer (some ⟨gr, 0, none⟩)] w (RetGa w gr gt n c i ts s sa sb) := by
 obtain ⟨w0, hw0⟩ : ∃ z0, z0 = w.alloc (.cells #[.string ⟨#[]⟩, .int .i64 0, .int .i64 0, .slice none 0 0, .bool false, .slice none 0 0, .slice none 0 0] 107) := ⟨_, rfl⟩
 have hb0 : Below w.heap.size w w0 := by rw [hw0]; exact qBA _ _
 obtain ⟨g2, hg0⟩ : ∃ g, g = w.heap.size := ⟨_, rfl⟩
 have hx0 : w0.heap[g2]? = some (.cells #[.string ⟨#[]⟩, .int .i64 0, .int .i64 0, .slice none 0 0, .bool false, .slice none 0 0, .slice none 0 0] 107) := by rw [hw0, hg0]; exact heap_alloc_new _ _
 have hs0 : w0.heap.size = w.heap.size + 1 := by rw [hw0]; simp
 have H0 := qHd (h.below hb0); have G0 := qHd hx0; have B0 := qHd hb0
 have GN := qHd (show g2 ≠ gr from fun e => by have := qao h.cells; omega)
 have LG := qHd (show w.heap.size ≤ g2 by omega)
 have GT := qHd (show gt ≠ g2 from fun e => by have := World.block_lt_of_cell? _ _ (h.tok i 0 s hi).1; simp only at this; omega)
 have hlt : i + 4 < n := by rw [← h.len]; exact (List.getElem?_eq_some_iff.1 h5).1
 have hltz : (i : Int) + 1 < (n : Int) := by omega
 clear hb0 hx0 hs0 h
 have HK := qHd (word_rd w0 gr gt n c i ts s H0.out hi hn)
 go_enter Tryz.func66, Tryz.ntmps66
 go_wp2_with (with_reducible refine qac ?_)
 rw [← hw0, ← hg0]
 clear hw0 hg0
 refine qad.mk ?_
 (with_reducible refine HK.out.mono ?_); rintro e w1 ⟨rfl, hx, hr⟩
 have X1 := qHd hx; have H1 := qHd hr
 clear hx hr HK
 obtain ⟨w2, hw1⟩ : ∃ z0, z0 = w1.alloc (.cells #[.string s, .int .i64 0, .int .i64 0, .slice none 0 0, .bool false, .slice none 0 0, .slice none 0 0] 107) := ⟨_, rfl⟩
 have hb1 : Below w1.heap.size w1 w2 := by rw [hw1]; exact qBA _ _
 obtain ⟨g3, hg1⟩ : ∃ g, g = w1.heap.size := ⟨_, rfl⟩
 have hx1 : w2.heap[g3]? = some (.cells #[.string s, .int .i64 0, .int .i64 0, .slice none 0 0, .bool false, .slice none 0 0, .slice none 0 0] 107) := by rw [hw1, hg1]; exact heap_alloc_new _ _
 have hs1 : w2.heap.size = w1.heap.size + 1 := by rw [hw1]; simp
 have H2 := qHd (H1.out.below hb1); have G3 := qHd hx1; have B2 := qHd hb1; have G02 := qHd (qaa (X1.out.heap G0.out (by simp; exact GN.out)) hb1)
 have NG := qHd (show g3 ≠ gr ∧ g3 ≠ g2 ∧ w.heap.size ≤ g3 from ⟨fun e => by have := qao H1.out.cells; omega, fun e => by have := qao (X1.out.heap G0.out (by simp; exact GN.out)); omega, by have := X1.out.size; have := B0.out.size; omega⟩)
 have GT3 := qHd (show gt ≠ g3 from fun e => by have := World.block_lt_of_cell? _ _ (H1.out.tok i 0 s hi).1; simp only at this; omega)
 clear hb1 hx1 hs1
 have HK := qHd (kind_rd w2 gr gt n c (i + 1) ts 0 0 ⟨#[97, 110, 100]⟩ true H2.out h2 rfl)
 go_wp2_with (with_reducible refine qac ?_)
 rw [← hw1, ← hg1]
 clear hw1 hg1
 refine qad.mk ?_
 (with_reducible refine HK.out.mono ?_); rintro e w3 ⟨rfl, hb3⟩
 have hb3' := hb3
 have H3 := qHd (H2.out.below hb3); have G33 := qHd (qaa G3.out hb3); have G03 := qHd (qaa G02.out hb3)
 clear hb3 HK
 go_wp2_with (with_reducible refine qax ?_)
 refine qad.mk ?_
 refine qay (A := ?aaG4) (w := w3) 15 [14] (by kernel_rfl) (Fl [KEq (.pointer (some ⟨gr, 0, none⟩)), KEq (.pointer (some ⟨gr, 0, none⟩)), KEq (.pointer (some ⟨gr, 0, none⟩)), KEq (.slice (some ⟨gt, 0, none⟩) n c), KEq (.pointer (some ⟨gr, 0, none⟩)), KEq (.pointer (some ⟨gr, 0, none⟩)), KEq (.pointer (some ⟨gr, 1, none⟩)), KEq (.int .i64 ((i + 1 : Nat) : Int)), KEq (.pointer (some ⟨gt, (i + 1) * 5, none⟩)), KEq (.pointer (some ⟨gt, (i + 1) * 5 + 1, none⟩)), KEq (.string ⟨#[97, 110, 100]⟩), KEq (.tuple #[.int .i64 0, .bool true]), KEq (.tuple #[.int .i64 0, .bool true]), KEq (.int .i64 0), KEq (.bool true)]) (fun i => false) (by kernel_rfl) ?hqG4 (qdx (qai (kEq _) (qai (kEq _) (qai (kEq _) (qai (kEq _) (qai (kEq _) (qai (kEq _) (qai (kEq _) (qai (kEq _) (qai (kEq _) (qai (kEq _) (qai (kEq _) (qai (kEq _) (qai (kEq _) (qai (kEq _) (qai (kEq _) qdw)))))))))))))))) ?haG4 ?stG4 ?tlG4
 case hqG4 =>
  intro c a d v w h
  first | (simp only [Exit.then] at h ⊢; exact h) | (simp only [Exit.inBlock, Exit.then] at h ⊢; exact h) | exact h
 case haG4 =>
  intro vals
  simp only [qat, qcf, if_true, Act.put, List.setIfInBounds_toArray, List.set_cons_zero, List.set_cons_succ, List.getElem?_toArray, List.getElem?_cons_zero, List.getElem?_cons_succ, Option.bind_some]
  exact rfl
 case stG4 =>
  simp only [List.take_succ_cons, List.take_zero]
  refine qab rfl rfl ?_ (qab rfl rfl ?_ (qab rfl rfl ?_ (qab rfl rfl ?_ (qab rfl rfl ?_ (qab rfl rfl ?_ (qab rfl rfl ?_ (qab rfl rfl ?_ (qab rfl rfl ?_ (qab rfl rfl ?_ (qab rfl rfl ?_ (qab rfl rfl ?_ (qab rfl rfl ?_ (qab rfl rfl ?_ (stepsOK_pure rfl ?_ (qbb)))))))))))))))
  ·intro vals w1 hb hd
   refine qSv (.pointer (some ⟨gr, 0, none⟩)) (by go_simp) (qLk rfl rfl)
  ·intro vals w1 hb hd
   rw [show vals 0 = .pointer (some ⟨gr, 0, none⟩) from hd 0 (by kernel_rfl)]
   refine qSv (.pointer (some ⟨gr, 0, none⟩)) (by go_simp) (qLk rfl rfl)
  ·intro vals w1 hb hd
   rw [show vals 1 = .pointer (some ⟨gr, 0, none⟩) from hd 1 (by kernel_rfl)]
   refine qSv (.pointer (some ⟨gr, 0, none⟩)) (by go_simp) (qLk rfl rfl)
  ·intro vals w1 hb hd
   obtain ⟨e0, e1, e2⟩ := qaq (qaa H3.out.cells hb)
   rw [show vals 2 = .pointer (some ⟨gr, 0, none⟩) from hd 2 (by kernel_rfl)]
   refine qSv (.slice (some ⟨gt, 0, none⟩) n c) (by go_simp) (qLk rfl rfl)
  ·intro vals w1 hb hd
   refine qSv (.pointer (some ⟨gr, 0, none⟩)) (by go_simp) (qLk rfl rfl)
  ·intro vals w1 hb hd
   rw [show vals 4 = .pointer (some ⟨gr, 0, none⟩) from hd 4 (by kernel_rfl)]
   refine qSv (.pointer (some ⟨gr, 0, none⟩)) (by go_simp) (qLk rfl rfl)
  ·intro vals w1 hb hd
   rw [show vals 5 = .pointer (some ⟨gr, 0, none⟩) from hd 5 (by kernel_rfl)]
   refine qSv (.pointer (some ⟨gr, 1, none⟩)) (by go_simp) (qLk rfl rfl)
  ·intro vals w1 hb hd
   obtain ⟨e0, e1, e2⟩ := qaq (qaa H3.out.cells hb)
   rw [show vals 6 = .pointer (some ⟨gr, 1, none⟩) from hd 6 (by kernel_rfl)]
   refine qSv (.int .i64 ((i + 1 : Nat) : Int)) (by go_simp) (qLk rfl rfl)
  ·intro vals w1 hb hd
   rw [show vals 3 = .slice (some ⟨gt, 0, none⟩) n c from hd 3 (by kernel_rfl)]
   rw [show vals 7 = .int .i64 ((i + 1 : Nat) : Int) from hd 7 (by kernel_rfl)]
   refine qSv (.pointer (some ⟨gt, (i + 1) * 5, none⟩)) (by go_simp; first | done | (intro h; omega)) (qLk rfl rfl)
  ·intro vals w1 hb hd
   rw [show vals 8 = .pointer (some ⟨gt, (i + 1) * 5, none⟩) from hd 8 (by kernel_rfl)]
   refine qSv (.pointer (some ⟨gt, (i + 1) * 5 + 1, none⟩)) (by go_simp) (qLk rfl rfl)
  ·intro vals w1 hb hd
   have e1 := qap (H3.out.tok (i + 1) 0 _ h2).2 hb
   rw [show vals 9 = .pointer (some ⟨gt, (i + 1) * 5 + 1, none⟩) from hd 9 (by kernel_rfl)]
   refine qSv (.string ⟨#[97, 110, 100]⟩) (by go_simp) (qLk rfl rfl)
  ·intro vals w1 hb hd
   have d10 : KEq (.string ⟨#[97, 110, 100]⟩) (vals 10) w1 := hd 10 (by kernel_rfl)
   have HS := qHd (gateKind_and w1)
   have z10 : vals 10 = _ := d10
   rw [z10]; clear z10
   refine qbh (by go_simp; first | done | exact ⟨⟨rfl, rfl⟩, rfl⟩) ?_
   (with_reducible refine HS.out.mono ?_); rintro e w2 ⟨rfl, rfl⟩
   exact ⟨_, rfl, qLk rfl rfl⟩
  ·intro vals w1 hb hd
   rw [show vals 11 = .tuple #[.int .i64 0, .bool true] from hd 11 (by kernel_rfl)]
   refine qSv (.tuple #[.int .i64 0, .bool true]) (by go_simp) (qLk rfl rfl)
  ·intro vals w1 hb hd
   rw [show vals 12 = .tuple #[.int .i64 0, .bool true] from hd 12 (by kernel_rfl)]
   refine qSv (.int .i64 0) (by go_simp) (qLk rfl rfl)
  ·intro vals w1 hb hd
   rw [show vals 12 = .tuple #[.int .i64 0, .bool true] from hd 12 (by kernel_rfl)]
   refine qcn (v := .bool true) (fun w => by go_simp) (qLk rfl rfl)
 case tlG4 =>
  intro vals w4 hb4 hf4 hdis
  simp only [List.drop_succ_cons, List.drop_zero]
  have z13 : vals 13 = _ := hf4 13 (by decide); have z14 : vals 14 = _ := hf4 14 (by decide)
  rw [z13, z14]
  clear z13 z14 hf4 hdis
  have H4 := qHd (H3.out.below hb4); have G34 := qHd (qaa G33.out hb4); have G04 := qHd (qaa G03.out hb4); have B4 := qHd hb4
  clear hb4
  go_wp2_with (with_reducible refine qaf 3 ?_)
  refine qds g3 1 G34.out rfl rfl (by simp) (by kernel_rfl) ?_
  intro w5 hp
  have G35 := qHd (show w5.heap[g3]? = some (.cells #[.string s, .int .i64 0, .int .i64 0, .slice none 0 0, .bool false, .slice none 0 0, .slice none 0 0] 107) by rw [hp]; simp [putL, World.setCell, Array.getElem?_modify, G34.out])
  have X5 := qHd (Exc.put (X := [g3]) hp (List.mem_singleton.2 rfl))
  clear hp
  have H5 := qHd (H4.out.exc X5.out (by simp; exact NG.out.1.symm) (by simp; exact GT3.out))
  have HK := qHd (take_rd w5 gr gt n c (i + 1) ts 0 ⟨#[97, 110, 100]⟩ H5.out h2 hn)
  go_wp2_with (with_reducible refine qac ?_)
  refine qad.mk ?_
  (with_reducible refine HK.out.mono ?_); rintro e w6 ⟨rfl, hx, hr⟩
  have X6 := qHd hx; have H6 := qHd hr; have G36 := qHd (hx.heap G35.out (by simp; exact NG.out.1))
  clear hx hr HK
  obtain ⟨x0, x1, x2⟩ := row7a G36.out
  have HR0 := H6; have GG0 := G36; have GZ0 := qHd (X6.out.heap (X5.out.heap G04.out (by simp; exact NG.out.2.1.symm)) (by simp; exact GN.out)); have OO0 := qHd (qbx.nil w6 w.heap.size 9 1)
  have EX0 := qHd (show Exc w w6 [gr] from ((((((Exc.of_below B0.out).trans X1.out).trans (Exc.of_below B2.out)).trans (Exc.of_below hb3')).trans (Exc.of_below B4.out)).next X5.out (fun g hg => by rw [List.mem_singleton] at hg; subst hg; exact .inr NG.out.2.2)).trans X6.out)
  go_wp2_with (with_reducible first | refine qah ?_ | refine qae ?_)
  refine qad.mk ?_
  clear x0 x1 x2
  refine wp_loop_rounds 4 ?_
  rw [rounds_succ]
  obtain ⟨x0, x1, x2⟩ := qaq HR0.out.cells
  have HK := qHd (is_rd w6 gr gt n c (i + 2) ts 0 sa ⟨#[59]⟩ false HR0.out h3 (by decide) qa1)
  go_wp2_with (with_reducible refine qac ?_)
  clear x0 x1 x2
  refine qad.mk ?_
  (with_reducible refine HK.out.mono ?_); rintro e v0 ⟨rfl, hb1⟩
  replace HR0 := qHd (HR0.out.below hb1); replace GG0 := qHd (qaa GG0.out hb1); replace GZ0 := qHd (qaa GZ0.out hb1); replace OO0 := qHd (OO0.out.below hb1); replace EX0 := qHd (EX0.out.trans (Exc.of_below hb1))
  clear hb1 HK
  go_wp2_with (with_reducible refine qax ?_)
  refine qad.mk ?_
  have hF0 : ∀ jj v w1 w2, Fl [KEq (.pointer (some ⟨g3, 3, none⟩)), KEq (.slice none 0 0), KEq (.pointer (some ⟨gr, 0, none⟩)), KEq (.string sa), KLst v0.heap.size 1 #[.string sa] 9] jj v w1 → Below w1.heap.size w1 w2 → Fl [KEq (.pointer (some ⟨g3, 3, none⟩)), KEq (.slice none 0 0), KEq (.pointer (some ⟨gr, 0, none⟩)), KEq (.string sa), KLst v0.heap.size 1 #[.string sa] 9] jj v w2 := qdx (qai (kEq _) (qai (kEq _) (qai (kEq _) (qai (kEq _) (qai (kLst _ _ _ _) qdw)))))
  obtain ⟨Ac, hAc⟩ : ∃ A : Bool → World → Prop, A = fun b w1 => if b then Exc v0 w1 [gr] ∧ Rd w1 gr gt n c ts (i + 3) else Below v0.heap.size v0 w1 := ⟨_, rfl⟩
  have HAF : ∀ w1, Ac false w1 → Below v0.heap.size v0 w1 := fun w1 h => by rw [hAc] at h; exact h
  have HAS : ∀ b w1, Ac b w1 → Exc v0 w1 [gr] := fun b w1 h => by
   rw [hAc] at h; cases b with
   | true => exact h.1
   | false => exact Exc.of_below h
  have hAM : ∀ b w1 w2, Ac b w1 → Below w1.heap.size w1 w2 → Ac b w2 := fun b w1 w2 h hb => by
   rw [hAc] at h ⊢; cases b with
   | true => exact ⟨h.1.trans (Exc.of_below hb), h.2.below hb⟩
   | false => exact h.trans (hb.mono h.size)
  have survG : ∀ jj u w1 w2, jj ≠ 3 → Fl [KEq (.pointer (some ⟨g3, 3, none⟩)), KEq (.slice none 0 0), KEq (.pointer (some ⟨gr, 0, none⟩)), KEq (.string sa), KLst v0.heap.size 1 #[.string sa] 9] jj u w1 → Exc w1 w2 [gr] → Fl [KEq (.pointer (some ⟨g3, 3, none⟩)), KEq (.slice none 0 0), KEq (.pointer (some ⟨gr, 0, none⟩)), KEq (.string sa), KLst v0.heap.size 1 #[.string sa] 9] jj u w2 := fun jj u w1 w2 hjj h hc => by
   match jj, hjj with
   | 0, _ => exact h
   | 1, _ => exact h
   | 2, _ => exact h
   | 4, _ => exact (by obtain ⟨g, q1, q2, q3⟩ := h; exact ⟨g, q1, q2, hc.heap q3 (by simp; intro e; have := qao HR0.out.cells; omega)⟩)
   | j + 5, _ => trivial
   | 3, hj => exact absurd rfl hj
  refine qcx (A := ?aaR0) (w := v0) 5 [] (by kernel_rfl) (Fl [KEq (.pointer (some ⟨g3, 3, none⟩)), KEq (.slice none 0 0), KEq (.pointer (some ⟨gr, 0, none⟩)), KEq (.string sa), KLst v0.heap.size 1 #[.string sa] 9]) (fun i => false) Ac 3 (by decide) ?h0R0 (by kernel_rfl) ?hqR0 ?haR0 ?stR0 ?tlR0
  case h0R0 => rw [hAc]; exact (Below.refl _ _).drew
  case hqR0 =>
   intro c a d v w h
   first | (simp only [Exit.then] at h ⊢; exact h) | (simp only [Exit.inBlock, Exit.then] at h ⊢; exact h) | exact h
  case haR0 =>
   intro vals
   simp only [qat, qcf, if_true, Act.put, List.setIfInBounds_toArray, List.set_cons_zero, List.set_cons_succ, List.getElem?_toArray, List.getElem?_cons_zero, List.getElem?_cons_succ, Option.bind_some]
   exact rfl
  case stR0 =>
   simp only [List.take_succ_cons, List.take_zero]
   refine qan rfl rfl ?_ (qan rfl rfl ?_ (qan rfl rfl ?_ (qan rfl rfl ?_ (qan rfl rfl ?_ (stepsOKG_nil)))))
   ·intro vals w1 b hsp hac hd
    refine qak (v := .pointer (some ⟨g3, 3, none⟩)) (w' := w1) (by go_simp) (qLg hF0 hAM (by decide) hac rfl rfl)
   ·intro vals w1 b hsp hac hd
    have e1 := (row7a ((HAS b w1 hac).heap GG0.out (by simp; exact NG.out.1))).2.1
    rw [show vals 0 = .pointer (some ⟨g3, 3, none⟩) from hd 0 (by kernel_rfl)]
    refine qak (v := .slice none 0 0) (w' := w1) (by go_simp) (qLg hF0 hAM (by decide) hac rfl rfl)
   ·intro vals w1 b hsp hac hd
    refine qak (v := .pointer (some ⟨gr, 0, none⟩)) (w' := w1) (by go_simp) (qLg hF0 hAM (by decide) hac rfl rfl)
   ·intro vals w1 b hsp hac hd
    obtain rfl : b = false := hsp rfl
    have hbl := HAF w1 hac
    have HS := qHd (input_rd w1 gr gt n c (i + 2) ts sa (HR0.out.below hbl) h3 qa2 hn)
    rw [show vals 2 = .pointer (some ⟨gr, 0, none⟩) from hd 2 (by kernel_rfl)]
    refine qbh (by go_simp; first | done | exact ⟨⟨rfl, rfl⟩, rfl⟩) ?_
    (with_reducible refine HS.out.mono ?_); rintro e w2 ⟨rfl, hx, hr⟩
    exact ⟨_, rfl, hx.size, fun j2 u hj2 hF2 => survG j2 u w1 w2 hj2 hF2 hx, by rw [hAc]; exact ⟨(Exc.of_below hbl).trans hx, hr⟩, rfl, fun h => by cases h⟩
   ·intro vals w1 b hsp hac hd
    rw [show vals 3 = .string sa from hd 3 (by kernel_rfl)]
    refine qak (v := .slice (some ⟨w1.heap.size, 0, none⟩) 1 1) (w' := w1.alloc (.cells #[.string sa] 9)) (by go_simp) (leavesG_mk hF0 hAM (by decide) hac ((Below.refl _ _).alloc (Nat.le_refl _) _) ⟨_, (HAS b w1 hac).size, rfl, heap_alloc_new _ _⟩ (fun h => by cases h))
  case tlR0 =>
   intro vals a0 hac8 hf8 hdis
   simp only [List.drop_succ_cons, List.drop_zero]
   rw [hAc] at hac8
   obtain ⟨hx8, hr8⟩ := hac8
   have z1 : vals 1 = _ := hf8 1 (by decide)
   obtain ⟨gl0, hgl0, z4, hzl0⟩ : KLst v0.heap.size 1 #[.string sa] 9 (vals 4) a0 := hf8 4 (by decide)
   rw [z1, z4]
   clear z1 z4 hf8 hdis hAM hF0 survG HAS HAF hAc Ac
   replace GG0 := qHd (hx8.heap GG0.out (by simp; exact NG.out.1)); replace GZ0 := qHd (hx8.heap GZ0.out (by simp; exact GN.out)); replace OO0 := qHd (hx8.own OO0.out (fun g hg => by cases hg)); replace EX0 := qHd (EX0.out.trans hx8)
   have GL0 := qHd hzl0; have HR0a := qHd hr8; have SZ0 := qHd (show w.heap.size ≤ a0.heap.size from EX0.out.size)
   clear hx8 hr8 hzl0 hgl0 HR0
   go_wp2_with (with_reducible refine qam ?_)
   refine qar w.heap.size Tryz.strTyK rfl (show noU [Value.string ⟨#[]⟩] from (by intro u hu n; simp only [List.mem_cons, List.not_mem_nil, or_false] at hu; subst hu; exact fun e => by cases e)) (by decide) (.slice none 0 0) 0 [] [.string sa] gl0 9 rfl rfl OO0.out GL0.out rfl rfl (by intro u hu n; simp only [List.mem_cons, List.not_mem_nil, or_false] at hu; subst hu; exact fun e => by cases e) (by intro u hu n; cases hu) (by decide) (by decide) SZ0.out ?_
   intro v' b0 ho hg hfr
   have eg : Exc a0 b0 [] := Exc.of_grown hg (fun g h => by cases h)
   obtain ⟨ao, ci1, rfl, hc1, hc2, _⟩ := qaz ho.1
   obtain ⟨gi1, rfl, hgB, hglt, _, _, _⟩ := qbt ho.1 rfl (by decide)
   have NI1 := qHd (show gi1 ≠ gr ∧ gi1 ≠ g3 ∧ gi1 ≠ g2 ∧ gi1 ≠ gt ∧ w.heap.size ≤ gi1 ∧ 1 ≤ ci1 ∧ ci1 ≤ 9223372036854775807 from ⟨fun e => hfr gr (qao HR0a.out.cells) (by simp [Value.ownBlock]) (by rw [e]; rfl), fun e => hfr g3 (qao GG0.out) (by simp [Value.ownBlock]) (by rw [e]; rfl), fun e => hfr g2 (qao GZ0.out) (by simp [Value.ownBlock]) (by rw [e]; rfl), fun e => hfr gt (HR0a.out.tlt h3) (by simp [Value.ownBlock]) (by rw [e]; rfl), hgB, hc1, hc2⟩)
   have O9 := qHd ho; have G9 := qHd (eg.heap GG0.out (by simp)); have GZ9 := qHd (eg.heap GZ0.out (by simp)); have H9 := qHd (HR0a.out.exc eg (by simp) (by simp)); have E9 := qHd (EX0.out.next eg (fun g hg => by cases hg))
   clear ho hg hfr eg hc1 hc2 hgB hglt GG0 GZ0 OO0 EX0 HR0a GL0
   go_wp2_with (with_reducible refine qaf 105 ?_)
   refine qdr g3 3 G9.out rfl rfl (by simp) (by kernel_rfl) ?_
   intro u1 hp
   have ep : Exc b0 u1 [g3] := Exc.put hp (List.mem_singleton.2 rfl)
   have GG1 := qHd (show u1.heap[g3]? = some (.cells #[.string s, .int .i64 0, .int .i64 0, .slice (some ⟨gi1, 0, none⟩) 1 ci1, .bool false, .slice none 0 0, .slice none 0 0] 107) by rw [hp]; simp [putL, World.setCell, Array.getElem?_modify, G9.out])
   have GZ1 := qHd (ep.heap GZ9.out (by simp; exact NG.out.2.1.symm)); have OO1 := qHd (ep.own O9.out (fun g hg => by cases hg; simp; exact NI1.out.2.1)); have HR1 := qHd (H9.out.exc ep (by simp; exact NG.out.1.symm) (by simp; exact GT3.out)); have EX1 := qHd (E9.out.next ep (fun g hg => by rw [List.mem_singleton] at hg; subst hg; exact .inr NG.out.2.2))
   clear hp ep G9 GZ9 O9 H9 E9
   go_wp2_with (with_reducible first | refine qah ?_ | refine qae ?_)
   refine qad.mk ?_
   rw [rounds_succ]
   obtain ⟨x0, x1, x2⟩ := qaq HR1.out.cells
   have HK := qHd (is_rd u1 gr gt n c (i + 3) ts 0 sb ⟨#[59]⟩ false HR1.out h4 (by decide) qb1)
   go_wp2_with (with_reducible refine qac ?_)
   clear x0 x1 x2
   refine qad.mk ?_
   (with_reducible refine HK.out.mono ?_); rintro e v1 ⟨rfl, hb1⟩
   replace HR1 := qHd (HR1.out.below hb1); replace GG1 := qHd (qaa GG1.out hb1); replace GZ1 := qHd (qaa GZ1.out hb1); replace OO1 := qHd (OO1.out.below hb1); replace EX1 := qHd (EX1.out.trans (Exc.of_below hb1))
   clear hb1 HK
   go_wp2_with (with_reducible refine qax ?_)
   refine qad.mk ?_
   have hF0 : ∀ jj v w1 w2, Fl [KEq (.pointer (some ⟨g3, 3, none⟩)), KEq (.slice (some ⟨gi1, 0, none⟩) 1 ci1), KEq (.pointer (some ⟨gr, 0, none⟩)), KEq (.string sb), KLst v1.heap.size 1 #[.string sb] 9] jj v w1 → Below w1.heap.size w1 w2 → Fl [KEq (.pointer (some ⟨g3, 3, none⟩)), KEq (.slice (some ⟨gi1, 0, none⟩) 1 ci1), KEq (.pointer (some ⟨gr, 0, none⟩)), KEq (.string sb), KLst v1.heap.size 1 #[.string sb] 9] jj v w2 := qdx (qai (kEq _) (qai (kEq _) (qai (kEq _) (qai (kEq _) (qai (kLst _ _ _ _) qdw)))))
   obtain ⟨Ac, hAc⟩ : ∃ A : Bool → World → Prop, A = fun b w1 => if b then Exc v1 w1 [gr] ∧ Rd w1 gr gt n c ts (i + 4) else Below v1.heap.size v1 w1 := ⟨_, rfl⟩
   have HAF : ∀ w1, Ac false w1 → Below v1.heap.size v1 w1 := fun w1 h => by rw [hAc] at h; exact h
   have HAS : ∀ b w1, Ac b w1 → Exc v1 w1 [gr] := fun b w1 h => by
    rw [hAc] at h; cases b with
    | true => exact h.1
    | false => exact Exc.of_below h
   have hAM : ∀ b w1 w2, Ac b w1 → Below w1.heap.size w1 w2 → Ac b w2 := fun b w1 w2 h hb => by
    rw [hAc] at h ⊢; cases b with
    | true => exact ⟨h.1.trans (Exc.of_below hb), h.2.below hb⟩
    | false => exact h.trans (hb.mono h.size)
   have survG : ∀ jj u w1 w2, jj ≠ 3 → Fl [KEq (.pointer (some ⟨g3, 3, none⟩)), KEq (.slice (some ⟨gi1, 0, none⟩) 1 ci1), KEq (.pointer (some ⟨gr, 0, none⟩)), KEq (.string sb), KLst v1.heap.size 1 #[.string sb] 9] jj u w1 → Exc w1 w2 [gr] → Fl [KEq (.pointer (some ⟨g3, 3, none⟩)), KEq (.slice (some ⟨gi1, 0, none⟩) 1 ci1), KEq (.pointer (some ⟨gr, 0, none⟩)), KEq (.string sb), KLst v1.heap.size 1 #[.string sb] 9] jj u w2 := fun jj u w1 w2 hjj h hc => by
    match jj, hjj with
    | 0, _ => exact h
    | 1, _ => exact h
    | 2, _ => exact h
    | 4, _ => exact (by obtain ⟨g, q1, q2, q3⟩ := h; exact ⟨g, q1, q2, hc.heap q3 (by simp; intro e; have := qao HR1.out.cells; omega)⟩)
    | j + 5, _ => trivial
    | 3, hj => exact absurd rfl hj
   refine qcx (A := ?aaR1) (w := v1) 5 [] (by kernel_rfl) (Fl [KEq (.pointer (some ⟨g3, 3, none⟩)), KEq (.slice (some ⟨gi1, 0, none⟩) 1 ci1), KEq (.pointer (some ⟨gr, 0, none⟩)), KEq (.string sb), KLst v1.heap.size 1 #[.string sb] 9]) (fun i => false) Ac 3 (by decide) ?h0R1 (by kernel_rfl) ?hqR1 ?haR1 ?stR1 ?tlR1
   case h0R1 => rw [hAc]; exact (Below.refl _ _).drew
   case hqR1 =>
    intro c a d v w h
    first | (simp only [Exit.then] at h ⊢; exact h) | (simp only [Exit.inBlock, Exit.then] at h ⊢; exact h) | exact h
   case haR1 =>
    intro vals
    simp only [qat, qcf, if_true, Act.put, List.setIfInBounds_toArray, List.set_cons_zero, List.set_cons_succ, List.getElem?_toArray, List.getElem?_cons_zero, List.getElem?_cons_succ, Option.bind_some]
    exact rfl
   case stR1 =>
    simp only [List.take_succ_cons, List.take_zero]
    refine qan rfl rfl ?_ (qan rfl rfl ?_ (qan rfl rfl ?_ (qan rfl rfl ?_ (qan rfl rfl ?_ (stepsOKG_nil)))))
    ·intro vals w1 b hsp hac hd
     refine qak (v := .pointer (some ⟨g3, 3, none⟩)) (w' := w1) (by go_simp) (qLg hF0 hAM (by decide) hac rfl rfl)
    ·intro vals w1 b hsp hac hd
     have e1 := (row7a ((HAS b w1 hac).heap GG1.out (by simp; exact NG.out.1))).2.1
     rw [show vals 0 = .pointer (some ⟨g3, 3, none⟩) from hd 0 (by kernel_rfl)]
     refine qak (v := .slice (some ⟨gi1, 0, none⟩) 1 ci1) (w' := w1) (by go_simp) (qLg hF0 hAM (by decide) hac rfl rfl)
    ·intro vals w1 b hsp hac hd
     refine qak (v := .pointer (some ⟨gr, 0, none⟩)) (w' := w1) (by go_simp) (qLg hF0 hAM (by decide) hac rfl rfl)
    ·intro vals w1 b hsp hac hd
     obtain rfl : b = false := hsp rfl
     have hbl := HAF w1 hac
     have HS := qHd (input_rd w1 gr gt n c (i + 3) ts sb (HR1.out.below hbl) h4 qb2 hn)
     rw [show vals 2 = .pointer (some ⟨gr, 0, none⟩) from hd 2 (by kernel_rfl)]
     refine qbh (by go_simp; first | done | exact ⟨⟨rfl, rfl⟩, rfl⟩) ?_
     (with_reducible refine HS.out.mono ?_); rintro e w2 ⟨rfl, hx, hr⟩
     exact ⟨_, rfl, hx.size, fun j2 u hj2 hF2 => survG j2 u w1 w2 hj2 hF2 hx, by rw [hAc]; exact ⟨(Exc.of_below hbl).trans hx, hr⟩, rfl, fun h => by cases h⟩
    ·intro vals w1 b hsp hac hd
     rw [show vals 3 = .string sb from hd 3 (by kernel_rfl)]
     refine qak (v := .slice (some ⟨w1.heap.size, 0, none⟩) 1 1) (w' := w1.alloc (.cells #[.string sb] 9)) (by go_simp) (leavesG_mk hF0 hAM (by decide) hac ((Below.refl _ _).alloc (Nat.le_refl _) _) ⟨_, (HAS b w1 hac).size, rfl, heap_alloc_new _ _⟩ (fun h => by cases h))
   case tlR1 =>
    intro vals a1 hac8 hf8 hdis
    simp only [List.drop_succ_cons, List.drop_zero]
    rw [hAc] at hac8
    obtain ⟨hx8, hr8⟩ := hac8
    have z1 : vals 1 = _ := hf8 1 (by decide)
    obtain ⟨gl1, hgl1, z4, hzl1⟩ : KLst v1.heap.size 1 #[.string sb] 9 (vals 4) a1 := hf8 4 (by decide)
    rw [z1, z4]
    clear z1 z4 hf8 hdis hAM hF0 survG HAS HAF hAc Ac
    replace GG1 := qHd (hx8.heap GG1.out (by simp; exact NG.out.1)); replace GZ1 := qHd (hx8.heap GZ1.out (by simp; exact GN.out)); replace OO1 := qHd (hx8.own OO1.out (fun g hg => by cases hg; simp; exact NI1.out.1)); replace EX1 := qHd (EX1.out.trans hx8)
    have GL1 := qHd hzl1; have HR1a := qHd hr8; have SZ1 := qHd (show w.heap.size ≤ a1.heap.size from EX1.out.size)
    clear hx8 hr8 hzl1 hgl1 HR1
    go_wp2_with (with_reducible refine qam ?_)
    refine qar w.heap.size Tryz.strTyK rfl (show noU [Value.string ⟨#[]⟩] from (by intro u hu n; simp only [List.mem_cons, List.not_mem_nil, or_false] at hu; subst hu; exact fun e => by cases e)) (by decide) (.slice (some ⟨gi1, 0, none⟩) 1 ci1) 1 [.string sa] [.string sb] gl1 9 rfl rfl OO1.out GL1.out rfl rfl (by intro u hu n; simp only [List.mem_cons, List.not_mem_nil, or_false] at hu; subst hu; exact fun e => by cases e) (by intro u hu n; simp only [List.mem_cons, List.not_mem_nil, or_false] at hu; subst hu; exact fun e => by cases e) (by decide) (by decide) SZ1.out ?_
    intro v' b1 ho hg hfr
    have eg : Exc a1 b1 [gi1] := Exc.of_grown hg (fun g h => by cases h; simp)
    obtain ⟨ao, ci2, rfl, hc1, hc2, _⟩ := qaz ho.1
    obtain ⟨gi2, rfl, hgB, hglt, _, _, _⟩ := qbt ho.1 rfl (by decide)
    have NI2 := qHd (show gi2 ≠ gr ∧ gi2 ≠ g3 ∧ gi2 ≠ g2 ∧ gi2 ≠ gt ∧ w.heap.size ≤ gi2 ∧ 2 ≤ ci2 ∧ ci2 ≤ 9223372036854775807 from ⟨fun e => hfr gr (qao HR1a.out.cells) (by simp [Value.ownBlock]; exact NI1.out.1) (by rw [e]; rfl), fun e => hfr g3 (qao GG1.out) (by simp [Value.ownBlock]; exact NI1.out.2.1) (by rw [e]; rfl), fun e => hfr g2 (qao GZ1.out) (by simp [Value.ownBlock]; exact NI1.out.2.2.1) (by rw [e]; rfl), fun e => hfr gt (HR1a.out.tlt h4) (by simp [Value.ownBlock]; exact NI1.out.2.2.2.1) (by rw [e]; rfl), hgB, hc1, hc2⟩)
    have O9 := qHd ho; have G9 := qHd (eg.heap GG1.out (by simp; exact NI1.out.2.1.symm)); have GZ9 := qHd (eg.heap GZ1.out (by simp; exact NI1.out.2.2.1.symm)); have H9 := qHd (HR1a.out.exc eg (by simp; exact NI1.out.1.symm) (by simp; exact NI1.out.2.2.2.1.symm)); have E9 := qHd (EX1.out.next eg (fun g hg => by rw [List.mem_singleton] at hg; subst hg; exact .inr NI1.out.2.2.2.2.1))
    clear ho hg hfr eg hc1 hc2 hgB hglt GG1 GZ1 OO1 EX1 HR1a GL1
    go_wp2_with (with_reducible refine qaf 105 ?_)
    refine qdr g3 3 G9.out rfl rfl (by simp) (by kernel_rfl) ?_
    intro u2 hp
    have ep : Exc b1 u2 [g3] := Exc.put hp (List.mem_singleton.2 rfl)
    have GG2 := qHd (show u2.heap[g3]? = some (.cells #[.string s, .int .i64 0, .int .i64 0, .slice (some ⟨gi2, 0, none⟩) 2 ci2, .bool false, .slice none 0 0, .slice none 0 0] 107) by rw [hp]; simp [putL, World.setCell, Array.getElem?_modify, G9.out])
    have GZ2 := qHd (ep.heap GZ9.out (by simp; exact NG.out.2.1.symm)); have OO2 := qHd (ep.own O9.out (fun g hg => by cases hg; simp; exact NI2.out.2.1)); have HR2 := qHd (H9.out.exc ep (by simp; exact NG.out.1.symm) (by simp; exact GT3.out)); have EX2 := qHd (E9.out.next ep (fun g hg => by rw [List.mem_singleton] at hg; subst hg; exact .inr NG.out.2.2))
    clear hp ep G9 GZ9 O9 H9 E9
    go_wp2_with (with_reducible first | refine qah ?_ | refine qae ?_)
    refine qad.mk ?_
    rw [rounds_succ]
    obtain ⟨x0, x1, x2⟩ := qaq HR2.out.cells
    have HK := qHd (is_rd u2 gr gt n c (i + 4) ts 2 ⟨#[59]⟩ ⟨#[59]⟩ true HR2.out h5 (by decide) (by kernel_rfl))
    go_wp2_with (with_reducible refine qac ?_)
    clear x0 x1 x2
    refine qad.mk ?_
    (with_reducible refine HK.out.mono ?_); rintro e v2 ⟨rfl, hb1⟩
    replace HR2 := qHd (HR2.out.below hb1); replace GG2 := qHd (qaa GG2.out hb1); replace GZ2 := qHd (qaa GZ2.out hb1); replace OO2 := qHd (OO2.out.below hb1); replace EX2 := qHd (EX2.out.trans (Exc.of_below hb1))
    clear hb1 HK
    have HK := qHd (expect_rd v2 gr gt n c (i + 4) ts 2 ⟨#[59]⟩ ⟨#[59]⟩ HR2.out h5 (by decide) (by kernel_rfl) hn)
    go_wp2_with (with_reducible refine qac ?_)
    refine qad.mk ?_
    (with_reducible refine HK.out.mono ?_); rintro e v3 ⟨rfl, hx, hr⟩
    replace GG2 := qHd (hx.heap GG2.out (by simp; exact NG.out.1)); replace GZ2 := qHd (hx.heap GZ2.out (by simp; exact GN.out)); replace OO2 := qHd (hx.own OO2.out (fun g hg => by cases hg; simp; exact NI2.out.1)); replace EX2 := qHd (EX2.out.trans hx)
    have HR3 := qHd hr
    clear hx hr HK HR2
    have x0 : v3.cell? ⟨g3, 0, none⟩ = some (.string s) := cell_of_row _ _ _ _ _ _ GG2.out
    have x1 : v3.cell? ⟨g3, 1, none⟩ = some (.int .i64 0) := cell_of_row _ _ _ _ _ _ GG2.out
    have x2 : v3.cell? ⟨g3, 2, none⟩ = some (.int .i64 0) := cell_of_row _ _ _ _ _ _ GG2.out
    have x3 : v3.cell? ⟨g3, 3, none⟩ = some (.slice (some ⟨gi2, 0, none⟩) 2 ci2) := cell_of_row _ _ _ _ _ _ GG2.out
    have x4 : v3.cell? ⟨g3, 4, none⟩ = some (.bool false) := cell_of_row _ _ _ _ _ _ GG2.out
    have x5 : v3.cell? ⟨g3, 5, none⟩ = some (.slice none 0 0) := cell_of_row _ _ _ _ _ _ GG2.out
    have x6 : v3.cell? ⟨g3, 6, none⟩ = some (.slice none 0 0) := cell_of_row _ _ _ _ _ _ GG2.out
    go_wp2_with (with_reducible refine qaf 107 ?_)
    clear x0 x1 x2 x3 x4 x5 x6
    refine qbj g2 0 [.string s, .int .i64 0, .int .i64 0, .slice (some ⟨gi2, 0, none⟩) 2 ci2, .bool false, .slice none 0 0, .slice none 0 0] GZ2.out rfl rfl (Nat.le_of_ble_eq_true rfl) (by kernel_rfl) rfl ?_
    intro v4 hp
    have ep : Exc v3 v4 [g2] := Exc.put hp (List.mem_singleton.2 rfl)
    have GF := qHd (show v4.heap[g2]? = some (.cells #[.string s, .int .i64 0, .int .i64 0, .slice (some ⟨gi2, 0, none⟩) 2 ci2, .bool false, .slice none 0 0, .slice none 0 0] 107) by rw [hp]; simp [putL, World.setCell, Array.getElem?_modify, GZ2.out])
    have OF := qHd (ep.own OO2.out (fun g hg => by cases hg; simp; exact NI2.out.2.2.1)); have HF := qHd (HR3.out.exc ep (by simp; exact GN.out.symm) (by simp; exact GT.out)); have EF := qHd (EX2.out.next ep (fun g hg => by rw [List.mem_singleton] at hg; subst hg; exact .inr LG.out))
    clear hp ep
    go_wp2_with fail
    refine ret_c1v rfl g2 #[.string s, .int .i64 0, .int .i64 0, .slice (some ⟨gi2, 0, none⟩) 2 ci2, .bool false, .slice none 0 0, .slice none 0 0] rfl GF.out Tryz.underlying107 rfl (by kernel_rfl) rfl ?_
    obtain ⟨g', eg, _, hlt, _, _, hc⟩ := qbt OF.out.1 rfl (by decide)
    cases eg
    exact ⟨gi2, ci2, rfl, EF.out, HF.out, NI2.out.2.2.2.2.1, hlt, NI2.out.2.2.2.2.2.1, NI2.out.2.2.2.2.2.2, hc 0 _ rfl, hc 1 _ rfl⟩
section
variable {P : Program} {ops : Array Oper} {rest : List Oper} {a : Act} {w : World} {Q : Exit → Act → World → Prop}
theorem qag (k : Tmp) {op : Op} {tt : TypeId} {pos : String} {af : Array Edge} {g : Option (Nat × Bool)} (h : qad (wpList P ops Q (⟨some k, op, tt, pos, af, g⟩ :: rest) a w)) : wpList P ops Q (⟨some k, op, tt, pos, af, g⟩ :: rest) a w := h
end
theorem row3m {w : World} {g : Nat} {x0 x1 x2 : Value} {T : TypeId} (h : w.heap[g]? = some (.cells #[x0, x1, x2] T)) : w.cell? ⟨g, 0, none⟩ = some x0 ∧ w.cell? ⟨g, 1, none⟩ = some x1 ∧ w.cell? ⟨g, 2, none⟩ = some x2 :=
 ⟨cell_of_row _ _ _ _ _ _ h, cell_of_row _ _ _ _ _ _ h, cell_of_row _ _ _ _ _ _ h⟩
theorem row4m {w : World} {g : Nat} {x0 x1 x2 x3 : Value} {T : TypeId} (h : w.heap[g]? = some (.cells #[x0, x1, x2, x3] T)) : w.cell? ⟨g, 0, none⟩ = some x0 ∧ w.cell? ⟨g, 1, none⟩ = some x1 ∧ w.cell? ⟨g, 2, none⟩ = some x2 ∧ w.cell? ⟨g, 3, none⟩ = some x3 :=
 ⟨cell_of_row _ _ _ _ _ _ h, cell_of_row _ _ _ _ _ _ h, cell_of_row _ _ _ _ _ _ h, cell_of_row _ _ _ _ _ _ h⟩
theorem row7m {w : World} {g : Nat} {x0 x1 x2 x3 x4 x5 x6 : Value} {T : TypeId} (h : w.heap[g]? = some (.cells #[x0, x1, x2, x3, x4, x5, x6] T)) : w.cell? ⟨g, 0, none⟩ = some x0 ∧ w.cell? ⟨g, 1, none⟩ = some x1 ∧ w.cell? ⟨g, 2, none⟩ = some x2 ∧ w.cell? ⟨g, 3, none⟩ = some x3 ∧ w.cell? ⟨g, 4, none⟩ = some x4 ∧ w.cell? ⟨g, 5, none⟩ = some x5 ∧ w.cell? ⟨g, 6, none⟩ = some x6 :=
 ⟨cell_of_row _ _ _ _ _ _ h, cell_of_row _ _ _ _ _ _ h, cell_of_row _ _ _ _ _ _ h, cell_of_row _ _ _ _ _ _ h, cell_of_row _ _ _ _ _ _ h, cell_of_row _ _ _ _ _ _ h, cell_of_row _ _ _ _ _ _ h⟩
theorem qcq {w : World} {g : Nat} {x0 x1 x2 x3 x4 x5 x6 x7 : Value} {T : TypeId} (h : w.heap[g]? = some (.cells #[x0, x1, x2, x3, x4, x5, x6, x7] T)) : w.cell? ⟨g, 0, none⟩ = some x0 ∧ w.cell? ⟨g, 1, none⟩ = some x1 ∧ w.cell? ⟨g, 2, none⟩ = some x2 ∧ w.cell? ⟨g, 3, none⟩ = some x3 ∧ w.cell? ⟨g, 4, none⟩ = some x4 ∧ w.cell? ⟨g, 5, none⟩ = some x5 ∧ w.cell? ⟨g, 6, none⟩ = some x6 ∧ w.cell? ⟨g, 7, none⟩ = some x7 :=
 ⟨cell_of_row _ _ _ _ _ _ h, cell_of_row _ _ _ _ _ _ h, cell_of_row _ _ _ _ _ _ h, cell_of_row _ _ _ _ _ _ h, cell_of_row _ _ _ _ _ _ h, cell_of_row _ _ _ _ _ _ h, cell_of_row _ _ _ _ _ _ h, cell_of_row _ _ _ _ _ _ h⟩
theorem row11m {w : World} {g : Nat} {x0 x1 x2 x3 x4 x5 x6 x7 x8 x9 x10 : Value} {T : TypeId} (h : w.heap[g]? = some (.cells #[x0, x1, x2, x3, x4, x5, x6, x7, x8, x9, x10] T)) : w.cell? ⟨g, 0, none⟩ = some x0 ∧ w.cell? ⟨g, 1, none⟩ = some x1 ∧ w.cell? ⟨g, 2, none⟩ = some x2 ∧ w.cell? ⟨g, 3, none⟩ = some x3 ∧ w.cell? ⟨g, 4, none⟩ = some x4 ∧ w.cell? ⟨g, 5, none⟩ = some x5 ∧ w.cell? ⟨g, 6, none⟩ = some x6 ∧ w.cell? ⟨g, 7, none⟩ = some x7 ∧ w.cell? ⟨g, 8, none⟩ = some x8 ∧ w.cell? ⟨g, 9, none⟩ = some x9 ∧ w.cell? ⟨g, 10, none⟩ = some x10 :=
 ⟨cell_of_row _ _ _ _ _ _ h, cell_of_row _ _ _ _ _ _ h, cell_of_row _ _ _ _ _ _ h, cell_of_row _ _ _ _ _ _ h, cell_of_row _ _ _ _ _ _ h, cell_of_row _ _ _ _ _ _ h, cell_of_row _ _ _ _ _ _ h, cell_of_row _ _ _ _ _ _ h, cell_of_row _ _ _ _ _ _ h, cell_of_row _ _ _ _ _ _ h, cell_of_row _ _ _ _ _ _ h⟩
theorem row12m {w : World} {g : Nat} {x0 x1 x2 x3 x4 x5 x6 x7 x8 x9 x10 x11 : Value} {T : TypeId} (h : w.heap[g]? = some (.cells #[x0, x1, x2, x3, x4, x5, x6, x7, x8, x9, x10, x11] T)) : w.cell? ⟨g, 0, none⟩ = some x0 ∧ w.cell? ⟨g, 1, none⟩ = some x1 ∧ w.cell? ⟨g, 2, none⟩ = some x2 ∧ w.cell? ⟨g, 3, none⟩ = some x3 ∧ w.cell? ⟨g, 4, none⟩ = some x4 ∧ w.cell? ⟨g, 5, none⟩ = some x5 ∧ w.cell? ⟨g, 6, none⟩ = some x6 ∧ w.cell? ⟨g, 7, none⟩ = some x7 ∧ w.cell? ⟨g, 8, none⟩ = some x8 ∧ w.cell? ⟨g, 9, none⟩ = some x9 ∧ w.cell? ⟨g, 10, none⟩ = some x10 ∧ w.cell? ⟨g, 11, none⟩ = some x11 :=
 ⟨cell_of_row _ _ _ _ _ _ h, cell_of_row _ _ _ _ _ _ h, cell_of_row _ _ _ _ _ _ h, cell_of_row _ _ _ _ _ _ h, cell_of_row _ _ _ _ _ _ h, cell_of_row _ _ _ _ _ _ h, cell_of_row _ _ _ _ _ _ h, cell_of_row _ _ _ _ _ _ h, cell_of_row _ _ _ _ _ _ h, cell_of_row _ _ _ _ _ _ h, cell_of_row _ _ _ _ _ _ h, cell_of_row _ _ _ _ _ _ h⟩
theorem qcd {w W : World} (h : w.heap.size ≤ W.heap.size) (o : Obj) : ∃ W', W' = W.alloc o ∧ Below W.heap.size W W' ∧ ∃ g, g = W.heap.size ∧ Hid (W'.heap[g]? = some o) ∧ Hid (w.heap.size ≤ g) :=
 ⟨_, rfl, (Below.refl _ _).alloc (Nat.le_refl _) _, _, rfl, qHd (heap_alloc_new _ _), qHd h⟩
theorem putL_fullP : ∀ (l cs pre : List Value) (w : World) (g : Nat) (T : TypeId), w.heap[g]? = some (.cells (pre ++ cs).toArray T) → l.length = cs.length → (putL w g pre.length l).heap[g]? = some (.cells (pre ++ l).toArray T)
 | [], cs, pre, w, g, T, h, hl => by
  have : cs = [] := List.length_eq_zero_iff.1 hl.symm
  subst this; exact h
 | x :: l, [], pre, w, g, T, h, hl => by cases hl
 | x :: l, c :: cs, pre, w, g, T, h, hl => by
  have h1 : (w.setCell ⟨g, pre.length, none⟩ x).heap[g]? = some (.cells ((pre ++ [x]) ++ cs).toArray T) := by
   simp [World.setCell, Array.getElem?_modify, h]
  have := putL_fullP l cs (pre ++ [x]) (w.setCell ⟨g, pre.length, none⟩ x) g T h1 (by simpa using hl)
  rw [List.length_append, List.length_singleton, List.append_assoc] at this
  unfold putL
  exact this
theorem qau {P : Program} {ops : Array Oper} {rest : List Oper} {a : Act} {w : World} {Q : Exit → Act → World → Prop} {ty tt : TypeId} {x y : Operand} {pos : String} {af : Array Edge}
  (g : Nat) (l : List Value) {cs : Array Value} {T : TypeId} (hg : w.heap[g]? = some (.cells cs T)) (hx : a.eval x = .pointer (some ⟨g, 0, none⟩)) (hy : a.eval y = .agg l.toArray)
  (hle : l.length = cs.size) (hi : (P.info? ty).map (·.size) = some l.length) (h1 : l.all (fun v => v.oneCell') = true) (hK : ∀ w', Exc w w' [g] → w'.heap[g]? = some (.cells l.toArray T) → wpList P ops Q rest a w') :
  qad (wpList P ops Q (⟨none, .store ty x y, tt, pos, af, none⟩ :: rest) a w) :=
 qbj g 0 l hg hx hy (by omega) hi h1 fun w' hp => hK w' (Exc.put hp (List.mem_singleton.2 rfl)) (by rw [hp]; exact putL_fullP l cs.toList [] w g T hg hle)
theorem qaw {w : World} {g h : Nat} {o p : Obj} (hg : w.heap[g]? = some o) (hh : w.heap[h]? = some p) (hn : o ≠ p) : g ≠ h := fun e => hn (by rw [e, hh] at hg; exact (Option.some.inj hg).symm)
theorem ret_c2s {P : Program} {fn : Func} {R : Ending → World → Prop} {a : Act} {w : World} {p u : Tmp} {ty : TypeId} {d : TypeDesc} (h : fn.results = #[.cell p ty, .tmp u]) (g : Nat) (cs : Array Value)
  (hp : a.tmps.getD p undef = .pointer (some ⟨g, 0, none⟩)) (hg : w.heap[g]? = some (.cells cs ty)) (hu : P.underlying ty = some d) (hd : (match d with | .struct _ | .array _ _ => true | _ => false) = true) (hi : (P.info? ty).map (·.size) = some cs.size)
  (hf : a.defers = []) (hR : R (.returned (.tuple #[.agg cs, a.tmps.getD u undef])) w) : bodyPost P fn R .ret a w := by
 refine bodyPost_ret (v := .tuple #[.agg cs, a.tmps.getD u undef]) ?_ hf hR
 rw [results_cell_tmp h, hp]
 simp only [asAddr, Sem.run_pure, Result.andThen, run_loadVar_row w g ty ty cs _ d hg hu hd hi]
theorem qdm {P : Program} {T ti : TypeId} {ar : Nat} {w : World} {b n g : Nat} {M : List Int → Option Int} {cs : Array Value} {U : TypeId} (h : qde P T ti ar w b n M) (hg : w.heap[g]? = some (.cells cs U)) : b ≠ g := fun e => by
 obtain ⟨D, ⟨es, clock, hb, _⟩, _⟩ := h
 rw [e, hg] at hb; cases hb
def evL : List Value := [.string ⟨#[97]⟩, .bool false, .slice none 0 0, .slice none 0 0, .bool false, .slice none 0 0, .slice none 0 0, .bool false, .slice none 0 0, .slice none 0 0, .int .i64 0, .string ⟨#[98]⟩, .bool false, .slice none 0 0, .slice none 0 0, .bool false, .slice none 0 0, .slice none 0 0, .bool false, .slice none 0 0, .slice none 0 0, .int .i64 0]
def gtL (gi ci : Nat) : List Value := [.string ⟨#[103]⟩, .int .i64 0, .int .i64 0, .slice (some ⟨gi, 0, none⟩) 2 ci, .bool false, .slice none 0 0, .slice none 0 0]
structure Md (w : World) (ge ce gg cg gi ci : Nat) : Prop where
 ev : ∀ (k : Nat) (v : Value), evL[k]? = some v → w.cell? ⟨ge, k, none⟩ = some v
 gt : ∀ (k : Nat) (v : Value), (gtL gi ci)[k]? = some v → w.cell? ⟨gg, k, none⟩ = some v
 inp : w.cell? ⟨gi, 0, none⟩ = some (.string ⟨#[97]⟩) ∧ w.cell? ⟨gi, 1, none⟩ = some (.string ⟨#[98]⟩)
 cap : 2 ≤ ce ∧ ce ≤ 9223372036854775807 ∧ 1 ≤ cg ∧ cg ≤ 9223372036854775807 ∧ 2 ≤ ci ∧ ci ≤ 9223372036854775807
theorem Md.below {w w' : World} {ge ce gg cg gi ci : Nat} (h : Md w ge ce gg cg gi ci) (hb : Below w.heap.size w w') : Md w' ge ce gg cg gi ci :=
 ⟨fun k v q => qap (h.ev k v q) hb, fun k v q => qap (h.gt k v q) hb, ⟨qap h.inp.1 hb, qap h.inp.2 hb⟩, h.cap⟩
theorem Md.e0 {w : World} {ge ce gg cg gi ci : Nat} (h : Md w ge ce gg cg gi ci) : w.cell? ⟨ge, 0, none⟩ = some (.string ⟨#[97]⟩) ∧ w.cell? ⟨ge, 1, none⟩ = some (.bool false) ∧ w.cell? ⟨ge, 2, none⟩ = some (.slice none 0 0) ∧ w.cell? ⟨ge, 3, none⟩ = some (.slice none 0 0) ∧ w.cell? ⟨ge, 4, none⟩ = some (.bool false) ∧ w.cell? ⟨ge, 5, none⟩ = some (.slice none 0 0) ∧ w.cell? ⟨ge, 6, none⟩ = some (.slice none 0 0) ∧ w.cell? ⟨ge, 7, none⟩ = some (.bool false) ∧ w.cell? ⟨ge, 8, none⟩ = some (.slice none 0 0) ∧ w.cell? ⟨ge, 9, none⟩ = some (.slice none 0 0) ∧ w.cell? ⟨ge, 10, none⟩ = some (.int .i64 0) :=
 ⟨h.ev 0 _ rfl, h.ev 1 _ rfl, h.ev 2 _ rfl, h.ev 3 _ rfl, h.ev 4 _ rfl, h.ev 5 _ rfl, h.ev 6 _ rfl, h.ev 7 _ rfl, h.ev 8 _ rfl, h.ev 9 _ rfl, h.ev 10 _ rfl⟩
theorem Md.e1 {w : World} {ge ce gg cg gi ci : Nat} (h : Md w ge ce gg cg gi ci) : w.cell? ⟨ge, 11, none⟩ = some (.string ⟨#[98]⟩) ∧ w.cell? ⟨ge, 12, none⟩ = some (.bool false) ∧ w.cell? ⟨ge, 13, none⟩ = some (.slice none 0 0) ∧ w.cell? ⟨ge, 14, none⟩ = some (.slice none 0 0) ∧ w.cell? ⟨ge, 15, none⟩ = some (.bool false) ∧ w.cell? ⟨ge, 16, none⟩ = some (.slice none 0 0) ∧ w.cell? ⟨ge, 17, none⟩ = some (.slice none 0 0) ∧ w.cell? ⟨ge, 18, none⟩ = some (.bool false) ∧ w.cell? ⟨ge, 19, none⟩ = some (.slice none 0 0) ∧ w.cell? ⟨ge, 20, none⟩ = some (.slice none 0 0) ∧ w.cell? ⟨ge, 21, none⟩ = some (.int .i64 0) :=
 ⟨h.ev 11 _ rfl, h.ev 12 _ rfl, h.ev 13 _ rfl, h.ev 14 _ rfl, h.ev 15 _ rfl, h.ev 16 _ rfl, h.ev 17 _ rfl, h.ev 18 _ rfl, h.ev 19 _ rfl, h.ev 20 _ rfl, h.ev 21 _ rfl⟩
theorem Md.g0 {w : World} {ge ce gg cg gi ci : Nat} (h : Md w ge ce gg cg gi ci) : w.cell? ⟨gg, 0, none⟩ = some (.string ⟨#[103]⟩) ∧ w.cell? ⟨gg, 1, none⟩ = some (.int .i64 0) ∧ w.cell? ⟨gg, 2, none⟩ = some (.int .i64 0) ∧ w.cell? ⟨gg, 3, none⟩ = some (.slice (some ⟨gi, 0, none⟩) 2 ci) ∧ w.cell? ⟨gg, 4, none⟩ = some (.bool false) ∧ w.cell? ⟨gg, 5, none⟩ = some (.slice none 0 0) ∧ w.cell? ⟨gg, 6, none⟩ = some (.slice none 0 0) :=
 ⟨h.gt 0 _ rfl, h.gt 1 _ rfl, h.gt 2 _ rfl, h.gt 3 _ rfl, h.gt 4 _ rfl, h.gt 5 _ rfl, h.gt 6 _ rfl⟩
theorem Md.lt {w : World} {ge ce gg cg gi ci : Nat} (h : Md w ge ce gg cg gi ci) : ge < w.heap.size ∧ gg < w.heap.size ∧ gi < w.heap.size :=
 ⟨World.block_lt_of_cell? _ _ (h.ev 0 _ rfl), World.block_lt_of_cell? _ _ (h.gt 0 _ rfl), World.block_lt_of_cell? _ _ h.inp.1⟩
theorem Md.exc {w w' : World} {X : List Nat} {ge ce gg cg gi ci : Nat} (h : Md w ge ce gg cg gi ci) (e : Exc w w' X) (h1 : ge ∉ X) (h2 : gg ∉ X) (h3 : gi ∉ X) : Md w' ge ce gg cg gi ci :=
 ⟨fun k v q => e.cell (h.ev k v q) h1, fun k v q => e.cell (h.gt k v q) h2, ⟨e.cell h.inp.1 h3, e.cell h.inp.2 h3⟩, h.cap⟩
theorem Tryz.evTyK : qdj Tryz.prog 37 101 (.agg #[.string ⟨#[]⟩, .bool false, .slice none 0 0, .slice none 0 0, .bool false, .slice none 0 0, .slice none 0 0, .bool false, .slice none 0 0, .slice none 0 0, .int .i64 0]) 11 192 := .mk' Tryz.underlying37 (by kernel_rfl)
theorem Tryz.gaTyK : qdj Tryz.prog 39 107 (.agg #[.string ⟨#[]⟩, .int .i64 0, .int .i64 0, .slice none 0 0, .bool false, .slice none 0 0, .slice none 0 0]) 7 112 := .mk' Tryz.underlying39 (by kernel_rfl)
def KGa (B : Nat) (s sa sb : ByteArray) : Value → World → Prop := fun v w => ∃ gi ci, v = .agg #[.string s, .int .i64 0, .int .i64 0, .slice (some ⟨gi, 0, none⟩) 2 ci, .bool false, .slice none 0 0, .slice none 0 0] ∧ B ≤ gi ∧ gi < w.heap.size ∧ 2 ≤ ci ∧ ci ≤ 9223372036854775807 ∧ w.cell? ⟨gi, 0, none⟩ = some (.string sa) ∧ w.cell? ⟨gi, 1, none⟩ = some (.string sb)
theorem kGa (B : Nat) (s sa sb : ByteArray) : MonoF (KGa B s sa sb) := fun _ _ _ ⟨gi, ci, h1, h2, h3, h4, h5, h6, h7⟩ hb => ⟨gi, ci, h1, h2, Nat.lt_of_lt_of_le h3 hb.size, h4, h5, qap h6 hb, qap h7 hb⟩
def KGl (B : Nat) (s sa sb : ByteArray) : Value → World → Prop := fun v w => ∃ g gi ci, B ≤ g ∧ v = .slice (some ⟨g, 0, none⟩) 1 1 ∧ w.heap[g]? = some (.cells #[.string s, .int .i64 0, .int .i64 0, .slice (some ⟨gi, 0, none⟩) 2 ci, .bool false, .slice none 0 0, .slice none 0 0] 107) ∧ B ≤ gi ∧ gi < w.heap.size ∧ 2 ≤ ci ∧ ci ≤ 9223372036854775807 ∧ w.cell? ⟨gi, 0, none⟩ = some (.string sa) ∧ w.cell? ⟨gi, 1, none⟩ = some (.string sb)
theorem kGl (B : Nat) (s sa sb : ByteArray) : MonoF (KGl B s sa sb) := fun _ _ _ ⟨g, gi, ci, a1, a2, a3, h2, h3, h4, h5, h6, h7⟩ hb => ⟨g, gi, ci, a1, a2, qaa a3 hb, h2, Nat.lt_of_lt_of_le h3 hb.size, h4, h5, qap h6 hb, qap h7 hb⟩
def RetSe (w : World) (gr gt n c i : Nat) (ts : List (Int × ByteArray)) (gm : Nat) (mn mt : ByteArray) (v4 : Value) (ao : Option Addr) (B k cc : Nat) (xs : List Value) (s : ByteArray) (e : Ending) (w' : World) : Prop :=
 ∃ gv c2 : Nat, e = .returned (.tuple #[]) ∧ Exc w w' (gr :: gm :: (Value.slice ao k cc).ownBlock.toList) ∧ Rd w' gr gt n c ts (i + 3) ∧ w'.heap[gm]? = some (.cells #[.string mn, .string mt, .slice (some ⟨gv, 0, none⟩) (k + 1) c2, .slice none 0 0, v4, .slice none 0 0, .slice none 0 0, .slice none 0 0] 44) ∧
  qbx w' B 101 11 (.slice (some ⟨gv, 0, none⟩) (k + 1) c2) (k + 1) (xs ++ [.string s, .bool false, .slice none 0 0, .slice none 0 0, .bool false, .slice none 0 0, .slice none 0 0, .bool false, .slice none 0 0, .slice none 0 0, .int .i64 0]) ∧ (∀ g, g < w.heap.size → (Value.slice ao k cc).ownBlock ≠ some g → gv ≠ g) ∧ gv ≠ gr ∧ gv ≠ gm
theorem statement_ev (w : World) (gr gt n c i : Nat) (ts : List (Int × ByteArray)) (gm : Nat) (mn mt : ByteArray) (v4 : Value) (ao : Option Addr) (B k cc : Nat) (xs : List Value) (s : ByteArray) (h : Rd w gr gt n c ts i) (hi : ts[i]? = some (0, ⟨#[101, 118, 101, 110, 116]⟩)) (h1 : ts[i + 1]? = some (0, s)) (h2 : ts[i + 2]? = some (2, ⟨#[59]⟩)) (hn : n ≤ 1000000)
  (hm : w.heap[gm]? = some (.cells #[.string mn, .string mt, .slice ao k cc, .slice none 0 0, v4, .slice none 0 0, .slice none 0 0, .slice none 0 0] 44)) (ho : qbx w B 101 11 (.slice ao k cc) k xs) (hx : noU xs) (hk : k ≤ 100) (hB : B ≤ w.heap.size) (ng : gm ≠ gr) (nt : gm ≠ gt) (nv : ∀ g, (.slice ao k cc : Value).ownBlock = some g → g ≠ gr ∧ g ≠ gm ∧ g ≠ gt) :
  Calls Tryz.prog 38 #[.pointer (some ⟨gr, 0, none⟩), .pointer (some ⟨gm, 0, none⟩)] w (RetSe w gr gt n c i ts gm mn mt v4 ao B k cc xs s) := by
 have HR := qHd h; have GM := qHd hm; have OV := qHd ho; have NV := qHd nv; have EX := qHd (Exc.refl w [gr]); have NG := qHd (And.intro ng nt); have HX := qHd hx
 have HI := qHd hi
 clear h hm ho nv ng nt hx
 go_enter Tryz.func38, Tryz.ntmps38
 have HK := qHd (is_rd w gr gt n c i ts 0 ⟨#[101, 118, 101, 110, 116]⟩ ⟨#[101, 118, 101, 110, 116]⟩ true HR.out HI.out (by decide) (by kernel_rfl))
 go_wp2_with (with_reducible refine qac ?_)
 refine qad.mk ?_
 (with_reducible refine HK.out.mono ?_); rintro e w1 ⟨rfl, hb⟩
 replace HR := qHd (HR.out.below hb); replace GM := qHd (qaa GM.out hb); replace OV := qHd (OV.out.below hb); replace EX := qHd (EX.out.trans (Exc.of_below hb))
 clear hb HK
 have HK := qHd (take_rd w1 gr gt n c i ts 0 ⟨#[101, 118, 101, 110, 116]⟩ HR.out HI.out hn)
 go_wp2_with (with_reducible refine qac ?_)
 refine qad.mk ?_
 (with_reducible refine HK.out.mono ?_); rintro e w7 ⟨rfl, hx7, hr7⟩
 replace HR := qHd hr7; replace GM := qHd (hx7.heap GM.out (by simp; exact NG.out.1)); replace OV := qHd (hx7.own OV.out (fun g hg => by simp; exact (NV.out g hg).1)); replace EX := qHd (EX.out.trans hx7)
 clear hx7 hr7 HK
 have SZ := qHd (show w.heap.size ≤ w7.heap.size from EX.out.size)
 go_wp2_with (with_reducible refine qax ?_)
 refine qad.mk ?_
 have hF0 : ∀ jj v w1 w2, Fl [KEq (.pointer (some ⟨gm, 0, none⟩)), KEq (.pointer (some ⟨gm, 0, none⟩)), KEq (.pointer (some ⟨gm, 0, none⟩)), KEq (.pointer (some ⟨gm, 2, none⟩)), KEq (.slice ao k cc), KEq (.pointer (some ⟨gr, 0, none⟩)), KEq (.agg #[.string s, .bool false, .slice none 0 0, .slice none 0 0, .bool false, .slice none 0 0, .slice none 0 0, .bool false, .slice none 0 0, .slice none 0 0, .int .i64 0]), KLst w7.heap.size 1 #[.string s, .bool false, .slice none 0 0, .slice none 0 0, .bool false, .slice none 0 0, .slice none 0 0, .bool false, .slice none 0 0, .slice none 0 0, .int .i64 0] 101] jj v w1 → Below w1.heap.size w1 w2 → Fl [KEq (.pointer (some ⟨gm, 0, none⟩)), KEq (.pointer (some ⟨gm, 0, none⟩)), KEq (.pointer (some ⟨gm, 0, none⟩)), KEq (.pointer (some ⟨gm, 2, none⟩)), KEq (.slice ao k cc), KEq (.pointer (some ⟨gr, 0, none⟩)), KEq (.agg #[.string s, .bool false, .slice none 0 0, .slice none 0 0, .bool false, .slice none 0 0, .slice none 0 0, .bool false, .slice none 0 0, .slice none 0 0, .int .i64 0]), KLst w7.heap.size 1 #[.string s, .bool false, .slice none 0 0, .slice none 0 0, .bool false, .slice none 0 0, .slice none 0 0, .bool false, .slice none 0 0, .slice none 0 0, .int .i64 0] 101] jj v w2 := qdx (qai (kEq _) (qai (kEq _) (qai (kEq _) (qai (kEq _) (qai (kEq _) (qai (kEq _) (qai (kEq _) (qai (kLst _ _ _ _) qdw))))))))
 obtain ⟨Ac, hAc⟩ : ∃ A : Bool → World → Prop, A = fun b w1 => if b then Exc w7 w1 [gr] ∧ Rd w1 gr gt n c ts (i + 3) else Below w7.heap.size w7 w1 := ⟨_, rfl⟩
 have HAF : ∀ w1, Ac false w1 → Below w7.heap.size w7 w1 := fun w1 h => by rw [hAc] at h; exact h
 have HAS : ∀ b w1, Ac b w1 → Exc w7 w1 [gr] := fun b w1 h => by
  rw [hAc] at h; cases b with
  | true => exact h.1
  | false => exact Exc.of_below h
 have hAM : ∀ b w1 w2, Ac b w1 → Below w1.heap.size w1 w2 → Ac b w2 := fun b w1 w2 h hb => by
  rw [hAc] at h ⊢; cases b with
  | true => exact ⟨h.1.trans (Exc.of_below hb), h.2.below hb⟩
  | false => exact h.trans (hb.mono h.size)
 have survG : ∀ jj u w1 w2, jj ≠ 6 → Fl [KEq (.pointer (some ⟨gm, 0, none⟩)), KEq (.pointer (some ⟨gm, 0, none⟩)), KEq (.pointer (some ⟨gm, 0, none⟩)), KEq (.pointer (some ⟨gm, 2, none⟩)), KEq (.slice ao k cc), KEq (.pointer (some ⟨gr, 0, none⟩)), KEq (.agg #[.string s, .bool false, .slice none 0 0, .slice none 0 0, .bool false, .slice none 0 0, .slice none 0 0, .bool false, .slice none 0 0, .slice none 0 0, .int .i64 0]), KLst w7.heap.size 1 #[.string s, .bool false, .slice none 0 0, .slice none 0 0, .bool false, .slice none 0 0, .slice none 0 0, .bool false, .slice none 0 0, .slice none 0 0, .int .i64 0] 101] jj u w1 → Exc w1 w2 [gr] → Fl [KEq (.pointer (some ⟨gm, 0, none⟩)), KEq (.pointer (some ⟨gm, 0, none⟩)), KEq (.pointer (some ⟨gm, 0, none⟩)), KEq (.pointer (some ⟨gm, 2, none⟩)), KEq (.slice ao k cc), KEq (.pointer (some ⟨gr, 0, none⟩)), KEq (.agg #[.string s, .bool false, .slice none 0 0, .slice none 0 0, .bool false, .slice none 0 0, .slice none 0 0, .bool false, .slice none 0 0, .slice none 0 0, .int .i64 0]), KLst w7.heap.size 1 #[.string s, .bool false, .slice none 0 0, .slice none 0 0, .bool false, .slice none 0 0, .slice none 0 0, .bool false, .slice none 0 0, .slice none 0 0, .int .i64 0] 101] jj u w2 := fun jj u w1 w2 hjj h hc => by
  match jj, hjj with
  | 0, _ => exact h
  | 1, _ => exact h
  | 2, _ => exact h
  | 3, _ => exact h
  | 4, _ => exact h
  | 5, _ => exact h
  | 7, _ => exact (by obtain ⟨g, q1, q2, q3⟩ := h; exact ⟨g, q1, q2, hc.heap q3 (by simp; intro e; have := qao HR.out.cells; omega)⟩)
  | j + 8, _ => trivial
  | 6, hj => exact absurd rfl hj
 refine qcx (A := ?aaSG) (w := w7) 8 [0] (by kernel_rfl) (Fl [KEq (.pointer (some ⟨gm, 0, none⟩)), KEq (.pointer (some ⟨gm, 0, none⟩)), KEq (.pointer (some ⟨gm, 0, none⟩)), KEq (.pointer (some ⟨gm, 2, none⟩)), KEq (.slice ao k cc), KEq (.pointer (some ⟨gr, 0, none⟩)), KEq (.agg #[.string s, .bool false, .slice none 0 0, .slice none 0 0, .bool false, .slice none 0 0, .slice none 0 0, .bool false, .slice none 0 0, .slice none 0 0, .int .i64 0]), KLst w7.heap.size 1 #[.string s, .bool false, .slice none 0 0, .slice none 0 0, .bool false, .slice none 0 0, .slice none 0 0, .bool false, .slice none 0 0, .slice none 0 0, .int .i64 0] 101]) (fun i => false) Ac 6 (by decide) ?h0SG (by kernel_rfl) ?hqSG ?haSG ?stSG ?tlSG
 case h0SG => rw [hAc]; exact (Below.refl _ _).drew
 case hqSG =>
  intro c a d v w h
  first | (simp only [Exit.then] at h ⊢; exact h) | (simp only [Exit.inBlock] at h ⊢; exact h) | exact h
 case haSG =>
  intro vals
  simp only [qat, qcf, if_true, Act.put, List.setIfInBounds_toArray, List.set_cons_zero, List.set_cons_succ, List.getElem?_toArray, List.getElem?_cons_zero, List.getElem?_cons_succ, Option.bind_some]
  exact rfl
 case stSG =>
  simp only [List.take_succ_cons, List.take_zero]
  refine stepsOKG_pure rfl ?_ (qan rfl rfl ?_ (qan rfl rfl ?_ (qan rfl rfl ?_ (qan rfl rfl ?_ (qan rfl rfl ?_ (qan rfl rfl ?_ (qan rfl rfl ?_ (stepsOKG_nil))))))))
  ·intro vals w1 b hsp hac hd
   refine qcn (v := .pointer (some ⟨gm, 0, none⟩)) (fun w => by go_simp) (qLg hF0 hAM (by decide) hac rfl rfl)
  ·intro vals w1 b hsp hac hd
   refine qak (v := .pointer (some ⟨gm, 0, none⟩)) (w' := w1) (by go_simp) (qLg hF0 hAM (by decide) hac rfl rfl)
  ·intro vals w1 b hsp hac hd
   rw [show vals 1 = .pointer (some ⟨gm, 0, none⟩) from hd 1 (by kernel_rfl)]
   refine qak (v := .pointer (some ⟨gm, 0, none⟩)) (w' := w1) (by go_simp) (qLg hF0 hAM (by decide) hac rfl rfl)
  ·intro vals w1 b hsp hac hd
   rw [show vals 2 = .pointer (some ⟨gm, 0, none⟩) from hd 2 (by kernel_rfl)]
   refine qak (v := .pointer (some ⟨gm, 2, none⟩)) (w' := w1) (by go_simp) (qLg hF0 hAM (by decide) hac rfl rfl)
  ·intro vals w1 b hsp hac hd
   have e1 : w1.cell? ⟨gm, 2, none⟩ = some (.slice ao k cc) := cell_of_row _ _ _ _ _ _ ((HAS b w1 hac).heap GM.out (by simp; exact NG.out.1))
   rw [show vals 3 = .pointer (some ⟨gm, 2, none⟩) from hd 3 (by kernel_rfl)]
   refine qak (v := .slice ao k cc) (w' := w1) (by go_simp) (qLg hF0 hAM (by decide) hac rfl rfl)
  ·intro vals w1 b hsp hac hd
   refine qak (v := .pointer (some ⟨gr, 0, none⟩)) (w' := w1) (by go_simp) (qLg hF0 hAM (by decide) hac rfl rfl)
  ·intro vals w1 b hsp hac hd
   obtain rfl : b = false := hsp rfl
   have hbl := HAF w1 hac
   have HS := qHd (event_rd w1 gr gt n c (i + 1) ts s (HR.out.below hbl) h1 h2 hn)
   rw [show vals 5 = .pointer (some ⟨gr, 0, none⟩) from hd 5 (by kernel_rfl)]
   refine qbh (by go_simp; first | done | exact ⟨⟨rfl, rfl⟩, rfl⟩) ?_
   (with_reducible refine HS.out.mono ?_); rintro e w2 ⟨rfl, hx, hr⟩
   exact ⟨_, rfl, hx.size, fun j2 u hj2 hF2 => survG j2 u w1 w2 hj2 hF2 hx, by rw [hAc]; exact ⟨(Exc.of_below hbl).trans hx, hr⟩, rfl, fun h => by cases h⟩
  ·intro vals w1 b hsp hac hd
   rw [show vals 6 = .agg #[.string s, .bool false, .slice none 0 0, .slice none 0 0, .bool false, .slice none 0 0, .slice none 0 0, .bool false, .slice none 0 0, .slice none 0 0, .int .i64 0] from hd 6 (by kernel_rfl)]
   refine qak (v := .slice (some ⟨w1.heap.size, 0, none⟩) 1 1) (w' := w1.alloc (.cells #[.string s, .bool false, .slice none 0 0, .slice none 0 0, .bool false, .slice none 0 0, .slice none 0 0, .bool false, .slice none 0 0, .slice none 0 0, .int .i64 0] 101)) (by go_simp) (leavesG_mk hF0 hAM (by decide) hac ((Below.refl _ _).alloc (Nat.le_refl _) _) ⟨_, (HAS b w1 hac).size, rfl, heap_alloc_new _ _⟩ (fun h => by cases h))
 case tlSG =>
  intro vals w8 hac8 hf8 hdis
  simp only [List.drop_succ_cons, List.drop_zero]
  rw [hAc] at hac8
  obtain ⟨hx8, hr8⟩ := hac8
  have z0 : vals 0 = _ := hf8 0 (by decide); have z4 : vals 4 = _ := hf8 4 (by decide)
  obtain ⟨gl, hgl, z7, hzl⟩ : KLst w7.heap.size 1 #[.string s, .bool false, .slice none 0 0, .slice none 0 0, .bool false, .slice none 0 0, .slice none 0 0, .bool false, .slice none 0 0, .slice none 0 0, .int .i64 0] 101 (vals 7) w8 := hf8 7 (by decide)
  rw [z0, z4, z7]
  clear z0 z4 z7 hf8 hdis hAM hF0 survG HAS HAF hAc Ac
  replace GM := qHd (hx8.heap GM.out (by simp; exact NG.out.1)); replace OV := qHd (hx8.own OV.out (fun g hg => by simp; exact (NV.out g hg).1)); replace EX := qHd (EX.out.trans hx8); replace HR := qHd hr8
  have GL := qHd hzl; replace SZ := qHd (Nat.le_trans SZ.out hx8.size)
  clear hx8 hr8 hzl hgl
  go_wp2_with (with_reducible refine qam ?_)
  refine qar B Tryz.evTyK rfl (show noU [.string ⟨#[]⟩, .bool false, .slice none 0 0, .slice none 0 0, .bool false, .slice none 0 0, .slice none 0 0, .bool false, .slice none 0 0, .slice none 0 0, .int .i64 0] from (by intro u hu n; simp only [List.mem_cons, List.not_mem_nil, or_false] at hu; rcases hu with rfl | rfl | rfl | rfl | rfl | rfl | rfl | rfl | rfl | rfl | rfl <;> exact fun e => by cases e)) (by decide) (.slice ao k cc) k xs [.string s, .bool false, .slice none 0 0, .slice none 0 0, .bool false, .slice none 0 0, .slice none 0 0, .bool false, .slice none 0 0, .slice none 0 0, .int .i64 0] gl 101 rfl rfl OV.out GL.out rfl rfl (by intro u hu n; simp only [List.mem_cons, List.not_mem_nil, or_false] at hu; rcases hu with rfl | rfl | rfl | rfl | rfl | rfl | rfl | rfl | rfl | rfl | rfl <;> exact fun e => by cases e) HX.out (by omega) (by decide) (Nat.le_trans hB SZ.out) ?_
  intro v' w9 ho9 hg9 hfr
  have eg : Exc w8 w9 (Value.slice ao k cc).ownBlock.toList := Exc.of_grown hg9 (fun g h => by rw [h]; simp)
  have nin : ∀ g, g = gr ∨ g = gm ∨ g = gt → g ∉ (Value.slice ao k cc).ownBlock.toList := fun g hg hm => by
   have q := NV.out g (by simpa using hm)
   rcases hg with e | e | e
   ·exact q.1 e
   ·exact q.2.1 e
   ·exact q.2.2 e
  obtain ⟨av, c2, rfl, hc1, hc2, _⟩ := qaz ho9.1
  obtain ⟨gv, rfl, hgB, hglt, _, _, _⟩ := qbt ho9.1 rfl (by omega)
  have FR := qHd (show ∀ g, g < w8.heap.size → (Value.slice ao k cc).ownBlock ≠ some g → gv ≠ g from fun g h1 h2 e => hfr g h1 h2 (by rw [e]; rfl))
  have NR := qHd (FR.out gr (qao HR.out.cells) (fun e => (NV.out gr e).1 rfl)); have NM := qHd (FR.out gm (qao GM.out) (fun e => (NV.out gm e).2.1 rfl)); have NT := qHd (FR.out gt (HR.out.tlt HI.out) (fun e => (NV.out gt e).2.2 rfl))
  have O9 := qHd ho9; have G9 := qHd (eg.heap GM.out (nin gm (.inr (.inl rfl)))); have H9 := qHd (HR.out.exc eg (nin gr (.inl rfl)) (nin gt (.inr (.inr rfl))))
  have E9 := qHd (show Exc w w9 (gr :: gm :: (Value.slice ao k cc).ownBlock.toList) from (EX.out.mono (fun g hg => .inl (by rw [List.mem_singleton.1 hg]; exact List.mem_cons_self ..))).trans (eg.mono (fun g hg => .inl (List.mem_cons_of_mem _ (List.mem_cons_of_mem _ hg)))))
  clear ho9 hg9 hfr eg nin hgB hglt GM OV EX HR GL
  go_wp2_with (with_reducible refine qaf 37 ?_)
  refine qdr gm 2 G9.out rfl rfl (Nat.le_of_ble_eq_true rfl) (by kernel_rfl) ?_
  intro w10 hp
  have ep : Exc w9 w10 [gm] := Exc.put hp (List.mem_singleton.2 rfl)
  have GF := qHd (show w10.heap[gm]? = some (.cells #[.string mn, .string mt, .slice (some ⟨gv, 0, none⟩) (k + 1) c2, .slice none 0 0, v4, .slice none 0 0, .slice none 0 0, .slice none 0 0] 44) by rw [hp]; simp [putL, World.setCell, Array.getElem?_modify, G9.out])
  have OF := qHd (ep.own O9.out (fun g hg => by cases hg; simp; exact NM.out)); have HF := qHd (H9.out.exc ep (by simp; exact NG.out.1.symm) (by simp; exact NG.out.2.symm))
  have EF := qHd (E9.out.trans (ep.mono (fun g hg => .inl (by rw [List.mem_singleton.1 hg]; simp))))
  clear hp ep G9 O9 H9 E9
  go_wp2_with fail
  refine bodyPost_ret (results_none rfl _ _ _) rfl ?_
  exact ⟨gv, c2, rfl, EF.out, HF.out, GF.out, OF.out, fun g h1 h2 => FR.out g (Nat.lt_of_lt_of_le h1 SZ.out) h2, NR.out, NM.out⟩
def RetSg (w : World) (gr gt n c i : Nat) (ts : List (Int × ByteArray)) (gm : Nat) (mn mt : ByteArray) (v2 : Value) (ao : Option Addr) (B k cc : Nat) (xs : List Value) (s sa sb : ByteArray) (e : Ending) (w' : World) : Prop :=
 ∃ gv c2 gi ci : Nat, e = .returned (.tuple #[]) ∧ Exc w w' (gr :: gm :: (Value.slice ao k cc).ownBlock.toList) ∧ Rd w' gr gt n c ts (i + 6) ∧ w'.heap[gm]? = some (.cells #[.string mn, .string mt, v2, .slice none 0 0, .slice (some ⟨gv, 0, none⟩) (k + 1) c2, .slice none 0 0, .slice none 0 0, .slice none 0 0] 44) ∧
  qbx w' B 107 7 (.slice (some ⟨gv, 0, none⟩) (k + 1) c2) (k + 1) (xs ++ [.string s, .int .i64 0, .int .i64 0, .slice (some ⟨gi, 0, none⟩) 2 ci, .bool false, .slice none 0 0, .slice none 0 0]) ∧ (∀ g, g < w.heap.size → (Value.slice ao k cc).ownBlock ≠ some g → gv ≠ g) ∧ gv ≠ gr ∧ gv ≠ gm ∧ w.heap.size ≤ gi ∧ gi < w'.heap.size ∧ gi ≠ gr ∧ gi ≠ gm ∧ gi ≠ gv ∧ 2 ≤ ci ∧ ci ≤ 9223372036854775807 ∧ w'.cell? ⟨gi, 0, none⟩ = some (.string sa) ∧ w'.cell? ⟨gi, 1, none⟩ = some (.string sb)
theorem statement_ga (w : World) (gr gt n c i : Nat) (ts : List (Int × ByteArray)) (gm : Nat) (mn mt : ByteArray) (v2 : Value) (ao : Option Addr) (B k cc : Nat) (xs : List Value) (s sa sb : ByteArray) (h : Rd w gr gt n c ts i) (hi : ts[i]? = some (0, ⟨#[103, 97, 116, 101]⟩)) (h1 : ts[i + 1]? = some (0, s)) (h2 : ts[i + 2]? = some (0, ⟨#[97, 110, 100]⟩)) (h3 : ts[i + 3]? = some (0, sa)) (h4 : ts[i + 4]? = some (0, sb)) (h5 : ts[i + 5]? = some (2, ⟨#[59]⟩)) (hn : n ≤ 1000000)
  (qa1 : (sa.toList == (⟨#[59]⟩ : ByteArray).toList) = false) (qa2 : (sa.toList == (⟨#[64]⟩ : ByteArray).toList) = false) (qb1 : (sb.toList == (⟨#[59]⟩ : ByteArray).toList) = false) (qb2 : (sb.toList == (⟨#[64]⟩ : ByteArray).toList) = false)
  (hm : w.heap[gm]? = some (.cells #[.string mn, .string mt, v2, .slice none 0 0, .slice ao k cc, .slice none 0 0, .slice none 0 0, .slice none 0 0] 44)) (ho : qbx w B 107 7 (.slice ao k cc) k xs) (hx : noU xs) (hk : k ≤ 100) (hB : B ≤ w.heap.size) (ng : gm ≠ gr) (nt : gm ≠ gt) (nv : ∀ g, (.slice ao k cc : Value).ownBlock = some g → g ≠ gr ∧ g ≠ gm ∧ g ≠ gt) :
  Calls Tryz.prog 38 #[.pointer (some ⟨gr, 0, none⟩), .pointer (some ⟨gm, 0, none⟩)] w (RetSg w gr gt n c i ts gm mn mt v2 ao B k cc xs s sa sb) := by
 have HR := qHd h; have GM := qHd hm; have OV := qHd ho; have NV := qHd nv; have EX := qHd (Exc.refl w [gr]); have NG := qHd (And.intro ng nt); have HX := qHd hx
 have HI := qHd hi
 clear h hm ho nv ng nt hx
 go_enter Tryz.func38, Tryz.ntmps38
 have HK := qHd (is_rd w gr gt n c i ts 0 ⟨#[103, 97, 116, 101]⟩ ⟨#[101, 118, 101, 110, 116]⟩ false HR.out HI.out (by decide) (by kernel_rfl))
 go_wp2_with (with_reducible refine qac ?_)
 refine qad.mk ?_
 (with_reducible refine HK.out.mono ?_); rintro e w1 ⟨rfl, hb⟩
 replace HR := qHd (HR.out.below hb); replace GM := qHd (qaa GM.out hb); replace OV := qHd (OV.out.below hb); replace EX := qHd (EX.out.trans (Exc.of_below hb))
 clear hb HK
 have HK := qHd (is_rd w1 gr gt n c i ts 0 ⟨#[103, 97, 116, 101]⟩ ⟨#[104, 111, 117, 115, 101]⟩ false HR.out HI.out (by decide) (by kernel_rfl))
 go_wp2_with (with_reducible refine qac ?_)
 refine qad.mk ?_
 (with_reducible refine HK.out.mono ?_); rintro e w2 ⟨rfl, hb⟩
 replace HR := qHd (HR.out.below hb); replace GM := qHd (qaa GM.out hb); replace OV := qHd (OV.out.below hb); replace EX := qHd (EX.out.trans (Exc.of_below hb))
 clear hb HK
 have HK := qHd (is_rd w2 gr gt n c i ts 0 ⟨#[103, 97, 116, 101]⟩ ⟨#[103, 97, 116, 101]⟩ true HR.out HI.out (by decide) (by kernel_rfl))
 go_wp2_with (with_reducible refine qac ?_)
 refine qad.mk ?_
 (with_reducible refine HK.out.mono ?_); rintro e w3 ⟨rfl, hb⟩
 replace HR := qHd (HR.out.below hb); replace GM := qHd (qaa GM.out hb); replace OV := qHd (OV.out.below hb); replace EX := qHd (EX.out.trans (Exc.of_below hb))
 clear hb HK
 have HK := qHd (take_rd w3 gr gt n c i ts 0 ⟨#[103, 97, 116, 101]⟩ HR.out HI.out hn)
 go_wp2_with (with_reducible refine qac ?_)
 refine qad.mk ?_
 (with_reducible refine HK.out.mono ?_); rintro e w7 ⟨rfl, hx7, hr7⟩
 replace HR := qHd hr7; replace GM := qHd (hx7.heap GM.out (by simp; exact NG.out.1)); replace OV := qHd (hx7.own OV.out (fun g hg => by simp; exact (NV.out g hg).1)); replace EX := qHd (EX.out.trans hx7)
 clear hx7 hr7 HK
 have SZ := qHd (show w.heap.size ≤ w7.heap.size from EX.out.size)
 go_wp2_with (with_reducible refine qax ?_)
 refine qad.mk ?_
 have hF0 : ∀ jj v w1 w2, Fl [KEq (.pointer (some ⟨gm, 0, none⟩)), KEq (.pointer (some ⟨gm, 0, none⟩)), KEq (.pointer (some ⟨gm, 0, none⟩)), KEq (.pointer (some ⟨gm, 4, none⟩)), KEq (.slice ao k cc), KEq (.pointer (some ⟨gr, 0, none⟩)), KGa w7.heap.size s sa sb, KGl w7.heap.size s sa sb] jj v w1 → Below w1.heap.size w1 w2 → Fl [KEq (.pointer (some ⟨gm, 0, none⟩)), KEq (.pointer (some ⟨gm, 0, none⟩)), KEq (.pointer (some ⟨gm, 0, none⟩)), KEq (.pointer (some ⟨gm, 4, none⟩)), KEq (.slice ao k cc), KEq (.pointer (some ⟨gr, 0, none⟩)), KGa w7.heap.size s sa sb, KGl w7.heap.size s sa sb] jj v w2 := qdx (qai (kEq _) (qai (kEq _) (qai (kEq _) (qai (kEq _) (qai (kEq _) (qai (kEq _) (qai (kGa _ _ _ _) (qai (kGl _ _ _ _) qdw))))))))
 obtain ⟨Ac, hAc⟩ : ∃ A : Bool → World → Prop, A = fun b w1 => if b then Exc w7 w1 [gr] ∧ Rd w1 gr gt n c ts (i + 6) else Below w7.heap.size w7 w1 := ⟨_, rfl⟩
 have HAF : ∀ w1, Ac false w1 → Below w7.heap.size w7 w1 := fun w1 h => by rw [hAc] at h; exact h
 have HAS : ∀ b w1, Ac b w1 → Exc w7 w1 [gr] := fun b w1 h => by
  rw [hAc] at h; cases b with
  | true => exact h.1
  | false => exact Exc.of_below h
 have hAM : ∀ b w1 w2, Ac b w1 → Below w1.heap.size w1 w2 → Ac b w2 := fun b w1 w2 h hb => by
  rw [hAc] at h ⊢; cases b with
  | true => exact ⟨h.1.trans (Exc.of_below hb), h.2.below hb⟩
  | false => exact h.trans (hb.mono h.size)
 have survG : ∀ jj u w1 w2, jj ≠ 6 → Fl [KEq (.pointer (some ⟨gm, 0, none⟩)), KEq (.pointer (some ⟨gm, 0, none⟩)), KEq (.pointer (some ⟨gm, 0, none⟩)), KEq (.pointer (some ⟨gm, 4, none⟩)), KEq (.slice ao k cc), KEq (.pointer (some ⟨gr, 0, none⟩)), KGa w7.heap.size s sa sb, KGl w7.heap.size s sa sb] jj u w1 → Exc w1 w2 [gr] → Fl [KEq (.pointer (some ⟨gm, 0, none⟩)), KEq (.pointer (some ⟨gm, 0, none⟩)), KEq (.pointer (some ⟨gm, 0, none⟩)), KEq (.pointer (some ⟨gm, 4, none⟩)), KEq (.slice ao k cc), KEq (.pointer (some ⟨gr, 0, none⟩)), KGa w7.heap.size s sa sb, KGl w7.heap.size s sa sb] jj u w2 := fun jj u w1 w2 hjj h hc => by
  match jj, hjj with
  | 0, _ => exact h
  | 1, _ => exact h
  | 2, _ => exact h
  | 3, _ => exact h
  | 4, _ => exact h
  | 5, _ => exact h
  | 7, _ => exact (by obtain ⟨g, gi, ci, z1, z2, z3, q1, q2, q3, q4, q5, q6⟩ := h; have ne : gi ≠ gr := (by have := qao HR.out.cells; omega); exact ⟨g, gi, ci, z1, z2, hc.heap z3 (by simp; have := qao HR.out.cells; omega), q1, Nat.lt_of_lt_of_le q2 hc.size, q3, q4, hc.cell q5 (by simp; exact ne), hc.cell q6 (by simp; exact ne)⟩)
  | j + 8, _ => trivial
  | 6, hj => exact absurd rfl hj
 refine qcx (A := ?aaSG) (w := w7) 8 [0] (by kernel_rfl) (Fl [KEq (.pointer (some ⟨gm, 0, none⟩)), KEq (.pointer (some ⟨gm, 0, none⟩)), KEq (.pointer (some ⟨gm, 0, none⟩)), KEq (.pointer (some ⟨gm, 4, none⟩)), KEq (.slice ao k cc), KEq (.pointer (some ⟨gr, 0, none⟩)), KGa w7.heap.size s sa sb, KGl w7.heap.size s sa sb]) (fun i => false) Ac 6 (by decide) ?h0SG (by kernel_rfl) ?hqSG ?haSG ?stSG ?tlSG
 case h0SG => rw [hAc]; exact (Below.refl _ _).drew
 case hqSG =>
  intro c a d v w h
  first | (simp only [Exit.then] at h ⊢; exact h) | (simp only [Exit.inBlock] at h ⊢; exact h) | exact h
 case haSG =>
  intro vals
  simp only [qat, qcf, if_true, Act.put, List.setIfInBounds_toArray, List.set_cons_zero, List.set_cons_succ, List.getElem?_toArray, List.getElem?_cons_zero, List.getElem?_cons_succ, Option.bind_some]
  exact rfl
 case stSG =>
  simp only [List.take_succ_cons, List.take_zero]
  refine stepsOKG_pure rfl ?_ (qan rfl rfl ?_ (qan rfl rfl ?_ (qan rfl rfl ?_ (qan rfl rfl ?_ (qan rfl rfl ?_ (qan rfl rfl ?_ (qan rfl rfl ?_ (stepsOKG_nil))))))))
  ·intro vals w1 b hsp hac hd
   refine qcn (v := .pointer (some ⟨gm, 0, none⟩)) (fun w => by go_simp) (qLg hF0 hAM (by decide) hac rfl rfl)
  ·intro vals w1 b hsp hac hd
   refine qak (v := .pointer (some ⟨gm, 0, none⟩)) (w' := w1) (by go_simp) (qLg hF0 hAM (by decide) hac rfl rfl)
  ·intro vals w1 b hsp hac hd
   rw [show vals 1 = .pointer (some ⟨gm, 0, none⟩) from hd 1 (by kernel_rfl)]
   refine qak (v := .pointer (some ⟨gm, 0, none⟩)) (w' := w1) (by go_simp) (qLg hF0 hAM (by decide) hac rfl rfl)
  ·intro vals w1 b hsp hac hd
   rw [show vals 2 = .pointer (some ⟨gm, 0, none⟩) from hd 2 (by kernel_rfl)]
   refine qak (v := .pointer (some ⟨gm, 4, none⟩)) (w' := w1) (by go_simp) (qLg hF0 hAM (by decide) hac rfl rfl)
  ·intro vals w1 b hsp hac hd
   have e1 : w1.cell? ⟨gm, 4, none⟩ = some (.slice ao k cc) := cell_of_row _ _ _ _ _ _ ((HAS b w1 hac).heap GM.out (by simp; exact NG.out.1))
   rw [show vals 3 = .pointer (some ⟨gm, 4, none⟩) from hd 3 (by kernel_rfl)]
   refine qak (v := .slice ao k cc) (w' := w1) (by go_simp) (qLg hF0 hAM (by decide) hac rfl rfl)
  ·intro vals w1 b hsp hac hd
   refine qak (v := .pointer (some ⟨gr, 0, none⟩)) (w' := w1) (by go_simp) (qLg hF0 hAM (by decide) hac rfl rfl)
  ·intro vals w1 b hsp hac hd
   obtain rfl : b = false := hsp rfl
   have hbl := HAF w1 hac
   have HS := qHd (gate_rd w1 gr gt n c (i + 1) ts s sa sb (HR.out.below hbl) h1 h2 h3 h4 h5 hn qa1 qa2 qb1 qb2)
   rw [show vals 5 = .pointer (some ⟨gr, 0, none⟩) from hd 5 (by kernel_rfl)]
   refine qbh (by go_simp; first | done | exact ⟨⟨rfl, rfl⟩, rfl⟩) ?_
   (with_reducible refine HS.out.mono ?_); rintro e w2 ⟨gi, ci, rfl, hx, hr, q1, q2, q3, q4, q5, q6⟩
   exact ⟨_, rfl, hx.size, fun j2 u hj2 hF2 => survG j2 u w1 w2 hj2 hF2 hx, by rw [hAc]; exact ⟨(Exc.of_below hbl).trans hx, hr⟩, ⟨gi, ci, rfl, Nat.le_trans hbl.size q1, q2, q3, q4, q5, q6⟩, fun h => by cases h⟩
  ·intro vals w1 b hsp hac hd
   have d6 : KGa w7.heap.size s sa sb (vals 6) w1 := hd 6 (by kernel_rfl)
   obtain ⟨gi, ci, ez, q1, q2, q3, q4, q5, q6⟩ := d6
   rw [ez]
   refine qak (v := .slice (some ⟨w1.heap.size, 0, none⟩) 1 1) (w' := w1.alloc (.cells #[.string s, .int .i64 0, .int .i64 0, .slice (some ⟨gi, 0, none⟩) 2 ci, .bool false, .slice none 0 0, .slice none 0 0] 107)) (by go_simp) (leavesG_mk hF0 hAM (by decide) hac ((Below.refl _ _).alloc (Nat.le_refl _) _) ⟨w1.heap.size, gi, ci, (HAS b w1 hac).size, rfl, heap_alloc_new _ _, q1, by rw [World.size_alloc]; omega, q3, q4, qap q5 ((Below.refl _ _).alloc (Nat.le_refl _) _), qap q6 ((Below.refl _ _).alloc (Nat.le_refl _) _)⟩ (fun h => by cases h))
 case tlSG =>
  intro vals w8 hac8 hf8 hdis
  simp only [List.drop_succ_cons, List.drop_zero]
  rw [hAc] at hac8
  obtain ⟨hx8, hr8⟩ := hac8
  have z0 : vals 0 = _ := hf8 0 (by decide); have z4 : vals 4 = _ := hf8 4 (by decide)
  obtain ⟨gl, gi, ci, hgl, z7, hzl, q1, q2, q3, q4, q5, q6⟩ : KGl w7.heap.size s sa sb (vals 7) w8 := hf8 7 (by decide)
  rw [z0, z4, z7]
  clear z0 z4 z7 hf8 hdis hAM hF0 survG HAS HAF hAc Ac
  have QI := qHd (show w.heap.size ≤ gi ∧ gi < w8.heap.size ∧ gi ≠ gr ∧ gi ≠ gm ∧ 2 ≤ ci ∧ ci ≤ 9223372036854775807 ∧ w8.cell? ⟨gi, 0, none⟩ = some (.string sa) ∧ w8.cell? ⟨gi, 1, none⟩ = some (.string sb) from ⟨Nat.le_trans SZ.out q1, q2, by have := qao HR.out.cells; omega, by have := qao GM.out; omega, q3, q4, q5, q6⟩)
  have QV := qHd (show ∀ g, (Value.slice ao k cc).ownBlock = some g → gi ≠ g from fun g hg => by have := (World.ownsRow.lt OV.out.1 g hg).2; omega)
  clear q1 q2 q3 q4 q5 q6
  replace GM := qHd (hx8.heap GM.out (by simp; exact NG.out.1)); replace OV := qHd (hx8.own OV.out (fun g hg => by simp; exact (NV.out g hg).1)); replace EX := qHd (EX.out.trans hx8); replace HR := qHd hr8
  have GL := qHd hzl; replace SZ := qHd (Nat.le_trans SZ.out hx8.size)
  clear hx8 hr8 hzl hgl
  go_wp2_with (with_reducible refine qam ?_)
  refine qar B Tryz.gaTyK rfl (show noU [.string ⟨#[]⟩, .int .i64 0, .int .i64 0, .slice none 0 0, .bool false, .slice none 0 0, .slice none 0 0] from (by intro u hu n; simp only [List.mem_cons, List.not_mem_nil, or_false] at hu; rcases hu with rfl | rfl | rfl | rfl | rfl | rfl | rfl <;> exact fun e => by cases e)) (by decide) (.slice ao k cc) k xs [.string s, .int .i64 0, .int .i64 0, .slice (some ⟨gi, 0, none⟩) 2 ci, .bool false, .slice none 0 0, .slice none 0 0] gl 107 rfl rfl OV.out GL.out rfl rfl (by intro u hu n; simp only [List.mem_cons, List.not_mem_nil, or_false] at hu; rcases hu with rfl | rfl | rfl | rfl | rfl | rfl | rfl <;> exact fun e => by cases e) HX.out (by omega) (by decide) (Nat.le_trans hB SZ.out) ?_
  intro v' w9 ho9 hg9 hfr
  have eg : Exc w8 w9 (Value.slice ao k cc).ownBlock.toList := Exc.of_grown hg9 (fun g h => by rw [h]; simp)
  have nin : ∀ g, g = gr ∨ g = gm ∨ g = gt → g ∉ (Value.slice ao k cc).ownBlock.toList := fun g hg hm => by
   have q := NV.out g (by simpa using hm)
   rcases hg with e | e | e
   ·exact q.1 e
   ·exact q.2.1 e
   ·exact q.2.2 e
  obtain ⟨av, c2, rfl, hc1, hc2, _⟩ := qaz ho9.1
  obtain ⟨gv, rfl, hgB, hglt, _, _, _⟩ := qbt ho9.1 rfl (by omega)
  have FR := qHd (show ∀ g, g < w8.heap.size → (Value.slice ao k cc).ownBlock ≠ some g → gv ≠ g from fun g h1 h2 e => hfr g h1 h2 (by rw [e]; rfl))
  have NR := qHd (FR.out gr (qao HR.out.cells) (fun e => (NV.out gr e).1 rfl)); have NM := qHd (FR.out gm (qao GM.out) (fun e => (NV.out gm e).2.1 rfl)); have NT := qHd (FR.out gt (HR.out.tlt HI.out) (fun e => (NV.out gt e).2.2 rfl))
  have NI := qHd (show gi ≠ gv from (FR.out gi QI.out.2.1 (fun e => QV.out gi e rfl)).symm)
  have QC := qHd (show w9.cell? ⟨gi, 0, none⟩ = some (.string sa) ∧ w9.cell? ⟨gi, 1, none⟩ = some (.string sb) ∧ gi < w9.heap.size from ⟨eg.cell QI.out.2.2.2.2.2.2.1 (fun hm => QV.out gi (by simpa using hm) rfl), eg.cell QI.out.2.2.2.2.2.2.2 (fun hm => QV.out gi (by simpa using hm) rfl), Nat.lt_of_lt_of_le QI.out.2.1 eg.size⟩)
  have O9 := qHd ho9; have G9 := qHd (eg.heap GM.out (nin gm (.inr (.inl rfl)))); have H9 := qHd (HR.out.exc eg (nin gr (.inl rfl)) (nin gt (.inr (.inr rfl))))
  have E9 := qHd (show Exc w w9 (gr :: gm :: (Value.slice ao k cc).ownBlock.toList) from (EX.out.mono (fun g hg => .inl (by rw [List.mem_singleton.1 hg]; exact List.mem_cons_self ..))).trans (eg.mono (fun g hg => .inl (List.mem_cons_of_mem _ (List.mem_cons_of_mem _ hg)))))
  clear ho9 hg9 hfr eg nin hgB hglt GM OV EX HR GL
  go_wp2_with (with_reducible refine qaf 39 ?_)
  refine qdr gm 4 G9.out rfl rfl (Nat.le_of_ble_eq_true rfl) (by kernel_rfl) ?_
  intro w10 hp
  have ep : Exc w9 w10 [gm] := Exc.put hp (List.mem_singleton.2 rfl)
  have GF := qHd (show w10.heap[gm]? = some (.cells #[.string mn, .string mt, v2, .slice none 0 0, .slice (some ⟨gv, 0, none⟩) (k + 1) c2, .slice none 0 0, .slice none 0 0, .slice none 0 0] 44) by rw [hp]; simp [putL, World.setCell, Array.getElem?_modify, G9.out])
  have OF := qHd (ep.own O9.out (fun g hg => by cases hg; simp; exact NM.out)); have HF := qHd (H9.out.exc ep (by simp; exact NG.out.1.symm) (by simp; exact NG.out.2.symm))
  have EF := qHd (E9.out.trans (ep.mono (fun g hg => .inl (by rw [List.mem_singleton.1 hg]; simp))))
  replace QC := qHd (show w10.cell? ⟨gi, 0, none⟩ = some (.string sa) ∧ w10.cell? ⟨gi, 1, none⟩ = some (.string sb) ∧ gi < w10.heap.size from ⟨ep.cell QC.out.1 (by simp; exact QI.out.2.2.2.1), ep.cell QC.out.2.1 (by simp; exact QI.out.2.2.2.1), Nat.lt_of_lt_of_le QC.out.2.2 ep.size⟩)
  clear hp ep G9 O9 H9 E9
  go_wp2_with fail
  refine bodyPost_ret (results_none rfl _ _ _) rfl ?_
  exact ⟨gv, c2, gi, ci, rfl, EF.out, HF.out, GF.out, OF.out, fun g h1 h2 => FR.out g (Nat.lt_of_lt_of_le h1 SZ.out) h2, NR.out, NM.out, QI.out.1, QC.out.2.2, QI.out.2.2.1, QI.out.2.2.2.1, NI.out, QI.out.2.2.2.2.1, QI.out.2.2.2.2.2.1, QC.out.1, QC.out.2.1⟩
end Go.Proofs.YteadcgmaailjlaaGreatDoor
