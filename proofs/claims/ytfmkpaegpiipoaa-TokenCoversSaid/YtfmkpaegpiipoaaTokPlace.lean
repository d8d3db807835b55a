/-
  token.Place and token.Join: what they hand back.
  Conditions: each theorem's own.
-/
import Derived.Test.YtfmkpaegpiipoaaTokText
import Derived.Test.YtfmkpaegpiipoaaTokLaw0
import Derived.Test.YtfmkpaegpiipoaaShelfB
namespace Go.Proofs.Ytfmkpaegpiipoaa
open Go.RowKit Go.ChangeShapes Go.WideShapes

theorem lastIdx_line (s : ByteArray) (k : Nat) (hk : k ≤ s.size) : Lib.lastIdx s 10 k = (lineStart (bs s) k : Int) - 1 := by
  induction k with
  | zero => rfl
  | succ k ih =>
    have hb : (s.data[k]!).toNat = gd (bs s) k := by
      rw [bs_getElem s k (by omega)]
      have : k < s.data.size := by have : s.data.size = s.size := rfl
                                   omega
      rw [getElem!_pos s.data k this]; rfl
    simp only [Lib.lastIdx, lineStart]
    rw [hb]
    by_cases h10 : gd (bs s) k = 10
    · rw [if_pos (by omega), if_pos h10]; omega
    · rw [if_neg (by omega), if_neg h10]; exact ih (by omega)
theorem lineStart_take (l : List Nat) (a k : Nat) (h : k ≤ a) : lineStart (l.take a) k = lineStart l k := by
  induction k with
  | zero => rfl
  | succ k ih =>
    have e : gd (l.take a) k = gd l k := by rw [gd_take, if_pos (by omega)]
    simp only [lineStart]
    rw [e, ih (by omega)]
theorem count_byte (s : ByteArray) : Lib.countByte s.data.toList 10 = (bs s).count 10 := by
  unfold Lib.countByte bs
  rw [show (10 : Nat) = UInt8.toNat 10 from rfl, List.count_eq_countP, List.count_eq_countP, List.countP_map]
  apply List.countP_congr
  intro x _
  simp only [Function.comp_apply, beq_iff_eq]
  constructor
  · intro h; rw [h]
  · intro h; exact UInt8.toNat_inj.1 h

set_option maxRecDepth 100000 in
set_option maxHeartbeats 800000 in
theorem place_any (s : ByteArray) (at_ : Int) (w : World) (hs : s.size ≤ 4000000000000000000) :
    Calls Try.prog 17 #[.string s, .int .i64 at_] w (RetV w (.tuple #[.int .i64 (lineOf (bs s) (clampN at_ s.size) : Nat), .int .i64 (colOf (bs s) (clampN at_ s.size) : Nat)])) := by
  obtain ⟨a, ha⟩ : ∃ a, a = clampN at_ s.size := ⟨_, rfl⟩
  have hle : a ≤ s.size := by rw [ha]; exact clampN_le _ _
  have hmx : max 0 (min at_ (s.size : Int)) = (a : Int) := by rw [ha]; unfold clampN; omega
  rw [← ha]
  have HA := Lib.hid ha; clear ha
  have hsl : ∀ wx : World, (Instr.slice 9 (.string s) none (some (.int .i64 (a : Int))) none).run Try.prog wx = .ok (.string (s.extract 0 a)) wx := fun wx => by
    rw [run_slice_string_to_if (P := Try.prog) wx 9 s .i64 a Try.underlying9, if_pos (by omega)]; simp
  obtain ⟨pre, hpre⟩ : ∃ pre, pre = s.extract 0 a := ⟨_, rfl⟩
  have hps : pre.size = a := by rw [hpre, ByteArray.size_extract]; omega
  have hbp : bs pre = (bs s).take a := by rw [hpre, bs_extract]; simp
  rw [← hpre] at hsl
  have hcount : (1 : Int) + (Lib.countByte pre.data.toList 10 : Nat) = (lineOf (bs s) a : Nat) := by
    rw [count_byte, hbp]; unfold lineOf; omega
  have hlast : (a : Int) - Lib.lastIndexByte pre 10 = (colOf (bs s) a : Nat) := by
    have h1 := lastIdx_line pre a (by omega)
    have h2 := lineStart_take (bs s) a a (Nat.le_refl _)
    have h3 := lineStart_le (bs s) a
    unfold Lib.lastIndexByte colOf
    rw [hps, h1, hbp, h2]; omega
  have hps' : pre.size < 4611686018427387904 := by omega
  have hl1 := line_le (bs s) a
  have hl2 := col_le (bs s) a
  have hq1 := fun wx => Try.strings_Count_one pre 10 wx
  have hq2 := fun wx => Try.strings_LastIndexByte pre 10 hps' wx
  have HQ1 := Lib.hid hq1; have HQ2 := Lib.hid hq2
  clear hps hbp hpre hq1 hq2 hle
  go_enter Try.func17, Try.ntmps17
  go_wp2_with fail
  go_quiet ((first | (go_at_call 37; exact Calls.quiet_of_same (HQ1.out _)) | (go_at_call 38; exact Calls.quiet_of_same (HQ2.out _))))
  go_wp2_with fail
  go_ret2
  exact ⟨rfl, below_drewN (Below.refl _ _) _⟩

/-- a slice of texts of the call's own -/
def OwnS (w : World) (B : Nat) (v : Value) (xs : List ByteArray) : Prop := w.ownsRow B 9 1 v xs.length (xs.map Value.string)
theorem OwnS.nil (w : World) (B : Nat) : OwnS w B (.slice none 0 0) [] := World.ownsRow_nil _ _ _ _
theorem OwnS.alloc {w : World} {B : Nat} {v : Value} {xs : List ByteArray} (h : OwnS w B v xs) (o : Obj) : OwnS (w.alloc o) B v xs := World.ownsRow.alloc h o
theorem Try.stringTy : SliceTy Try.prog 56 9 (.string ⟨#[]⟩) 1 16 := .mk' Try.underlying56 (by kernel_rfl)
section
variable {w : World} {ops : Array Oper} {rest : List Oper} {o : Oper} {a : Act} {Q : Exit → Act → World → Prop}
/-- 'append(s, t)': one text, behind the block that holds it -/
theorem wpList_appendS (hg : o.guard = none) (s x : Operand) (hop : o.op = Op.call { callee := Callee.builtin Builtin.append, args := #[s, x], argTypes := #[56, 56] })
    (B : Nat) (v : Value) (xs : List ByteArray) (tx : ByteArray) (hs : a.eval s = v) (hx : a.eval x = .slice (some ⟨w.heap.size, 0, none⟩) 1 1)
    (hown : OwnS w B v xs) (hlen : xs.length ≤ 1099511627776) (hB : B ≤ w.heap.size)
    (hK : ∀ v' w', OwnS w' B v' (xs ++ [tx]) → (∀ w0, Below B w0 w → Below B w0 w') → w.heap.size ≤ w'.heap.size →
      wpList Try.prog ops Q rest (a.put o.dst v') w') :
    wpList Try.prog ops Q (o :: rest) a (w.alloc (.cells #[.string tx] 9)) := by
  obtain ⟨i0, hi, hz0, hz1, hz2⟩ := Try.stringTy.info
  refine wpList_append_own _ hg s x 56 hop B 9 i0 _ 1 16 Try.stringTy.under hi hz0 hz1 hz2 rfl (by decide) v xs.length (xs.map Value.string) hs (World.ownsRow.alloc hown _) ⟨w.heap.size, 0, none⟩ 1 1 [.string tx] hx rfl ?_ ?_ (by unfold maxLen; omega) (by omega) (by simp; omega) ?_
  · intro j u hu
    have hj : j < 1 := (List.getElem?_eq_some_iff.1 hu).1
    obtain rfl : j = 0 := by omega
    rw [show (⟨w.heap.size, 0, none⟩ : Addr).add 0 = ⟨w.heap.size, 0, none⟩ from rfl, cell_of_row (w.alloc (.cells #[.string tx] 9)) w.heap.size 0 #[.string tx] 9 (0, 0) (heap_alloc_new w _)]
    rw [← hu]; rfl
  · intro u hu
    simp only [List.mem_cons, List.not_mem_nil, or_false] at hu
    subst hu; rfl
  · intro v' w' h1 h2 _
    refine hK v' w' ?_ (fun w0 h0 => ?_) ?_
    · unfold OwnS; rw [List.map_append, List.length_append]; exact h1
    · have hb : Below B w0 (w.alloc (.cells #[.string tx] 9)) := h0.alloc hB _
      refine hb.grown h2 (by simp; omega) ?_
      intro k hk
      exact (World.ownsRow.lt hown k hk).1
    · have := h2.size; simp at this; omega
end

/-- the joined texts of tokens -/
def joinT (ts : List TokV) : ByteArray := ⟨(Lib.join (ts.map fun t => t.text.data.toList) [32]).toArray⟩

set_option maxRecDepth 100000 in
set_option maxHeartbeats 1000000 in
theorem join_any (v : Value) (ts : List TokV) (w : World) (hv : Toks w v ts) (hlen : (joinT ts).size ≤ 1000000) (hn : ts.length ≤ 1000000) :
    Calls Try.prog 16 #[v] w (RetV w (.string (joinT ts))) := by
  obtain ⟨ao, c, rfl, hc1, hc2, _⟩ := hv.shape
  obtain ⟨n, hn'⟩ : ∃ n, n = ts.length := ⟨_, rfl⟩
  rw [← hn'] at hv hc1 hn ⊢
  have HN := Lib.hid hn'; clear hn'
  go_enter Try.func16, Try.ntmps16
  go_wp2_with fail
  go_loopw [3, 8] (fun out i wr => ∃ k : Nat, k ≤ n ∧ i = .int .i64 k ∧ OwnS wr w.heap.size out ((ts.take k).map TokV.text) ∧ Below w.heap.size w wr) (fun _ i _ => n - (intOf i).toNat)
  case atStart => exact ⟨0, Nat.zero_le _, rfl, OwnS.nil _ _, Below.refl _ _⟩
  case round =>
    obtain ⟨k, hk, rfl, ho, hb⟩ := hrel
    by_cases hlt : k < n
    · obtain ⟨t, ht⟩ : ∃ t, ts[k]? = some t := ⟨ts[k]'(by rw [← HN.out]; exact hlt), List.getElem?_eq_getElem _⟩
      obtain ⟨b1, o1, rfl, _, c0, c1, c2, c3, c4⟩ := (hv.below hb).get ht (by omega)
      have HO := Lib.hid ho; have HT := Lib.hid ht; clear ho ht
      have hlk : ((ts.take k).map TokV.text).length ≤ 1099511627776 := by rw [List.length_map, List.length_take]; omega
      have hbs := hb.size
      go_wp2_with (at_builtin; refine wpList_appendS rfl (.tmp 12) (.tmp 15) rfl w.heap.size _ _ t.text rfl ?c1 (HO.out.alloc _) hlk ?c2 ?_)
      case c1 => show Value.slice (some ⟨wr.heap.size + 1, 0, none⟩) 1 1 = _; simp
      case c2 => simp; omega
      intro v' w1 h1 h2 h3
      have h4 := h2 w (hb.alloc hbs _)
      go_wp2_with fail
      go_roundw
      case rel => exact ⟨k + 1, by omega, by go_num, by rw [List.take_add_one, HT.out, List.map_append, List.map_take]; exact h1, h4⟩
      case measure => simp [intOf]; omega
    · obtain rfl : k = n := by omega
      have htk : ts.take k = ts := by rw [HN.out]; exact List.take_length
      rw [htk] at ho
      have hsz := World.ownsRow.lt ho
      have hcs := fun g hg => World.ownsRow.cells (g := g) ho hg
      have HTK := Lib.hid htk; clear htk
      rcases ho.2 with ⟨rfl, h0⟩ | ⟨g, cap, cur, rfl, hbg, hh, hcap, hm, hs, ht⟩
      · have hz : ts = [] := by rw [List.length_map] at h0; exact List.eq_nil_of_length_eq_zero h0
        have hj : joinT ts = ⟨#[]⟩ := by rw [hz]; rfl
        have HJ := Lib.hid hj; clear h0 hz hj hcs hsz ho
        have hjn := fun wx => Try.strings_Join_none none 0 ⟨#[32]⟩ wx
        have HJN := Lib.hid hjn; clear hjn
        go_wp2_with (go_at_call 36; (with_reducible refine (HJN.out _).mono ?_); rintro e w' ⟨rfl, rfl⟩)
        go_ret
        exact ⟨ret_eq (by rw [HJ.out]; rfl), hb⟩
      · have hlenj : (Lib.join ((ts.map TokV.text).map (·.data.toList)) [32]).length ≤ 140737488355328 := by
          have : (joinT ts).size = (Lib.join ((ts.map TokV.text).map (·.data.toList)) [32]).length := by
            rw [List.map_map]; simp [joinT, ByteArray.size]; rfl
          rw [← this]; omega
        have hjs := Try.strings_Join g 0 cap (ts.map TokV.text) ⟨#[32]⟩ wr
          (fun j x hx => by
            have hjl : j < (ts.map TokV.text).length := (List.getElem?_eq_some_iff.1 hx).1
            have := hcs g rfl j (.string x) (by rw [List.getElem?_map, hx]; rfl)
            have e2 : (⟨g, 0, none⟩ : Addr).add j = ⟨g, 0 + j, none⟩ := by unfold Addr.add; split <;> simp_all
            rwa [e2] at this) (hsz g rfl).2 (by rw [List.length_map]; have := HN.out; omega) hcap hlenj
        rw [List.length_map, ← HN.out] at hjs
        have HJS := Lib.hid hjs; clear hjs hlenj hcs hsz ho
        rw [List.length_map, ← HN.out]
        clear hh ht hs hcap hm
        go_wp2_with (go_at_call 36; (with_reducible refine HJS.out.mono ?_); rintro e w' ⟨rfl, hb'⟩)
        go_ret
        exact ⟨ret_eq rfl, hb.trans (hb'.mono hb.size)⟩
end Go.Proofs.Ytfmkpaegpiipoaa
