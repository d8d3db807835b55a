/-
  natural.trim, natural.word, natural.Of and the reference's: what they hand back.
  Conditions: each theorem's own.
-/
import Derived.Test.YtdepoikifneggaaDoorProg
import Derived.Test.YtdepoikifneggaaDoorNatMath
import Derived.Deep.QuietTactic
import Derived.BigQuiet
namespace Go.Proofs.YtdepoikifneggaaDoor
open Go.RowKit Go.ChangeShapes Go.WideShapes

theorem Tryd.wordsTy : SliceTy Tryd.prog 22 38 (.int .u32 0) 1 4 := .mk' Tryd.underlying22 (by kernel_rfl)

/-- hands back words of the call's own -/
def RetOwn (w : World) (R : List Nat → Prop) (e : Ending) (w' : World) : Prop := ∃ v l, e = .returned v ∧ Below w.heap.size w w' ∧ OwnW 38 w' w.heap.size v l ∧ R l

/-- a slice literal of words is the call's own -/
theorem own_lit (w : World) (e : TypeId) (B : Nat) (cs : Array Value) (l : List Nat) (n : Nat) (hB : B ≤ w.heap.size) (hU : U32 l) (hn : l.length = n) (hs : l.length ≤ 1000000) (hcs : cs = (l.map fun x : Nat => Value.int .u32 x).toArray) :
    OwnW e (w.alloc (.cells cs e)) B (.slice (some ⟨w.heap.size, 0, none⟩) n n) l := by
  subst hcs hn
  refine ⟨⟨by simp, .inr ⟨w.heap.size, l.length, _, rfl, hB, heap_alloc_new w _, Nat.le_refl _, by unfold maxLen; omega, by simp, by simp [List.take_of_length_le]⟩⟩, hU⟩
theorem Num.take {w : World} {ao : Option Addr} {n c : Nat} {l : List Nat} (h : Num w (.slice ao n c) l) (k : Nat) (hk : k ≤ l.length) : Num w (.slice ao k c) (l.take k) := by
  obtain ⟨ao', c', e, h1, h2, h3, h4, h5⟩ := h
  cases e
  have hl : (l.take k).length = k := by rw [List.length_take]; omega
  refine ⟨ao, c, by rw [hl], by omega, h2, h3, ?_, ?_⟩
  · intro b off s hs
    obtain ⟨k1, k2⟩ := h4 b off s hs
    rw [hl]
    exact ⟨fun h0 => k1 (by omega), fun j hj => by rw [k2 j (by omega), gd_take, if_pos hj]⟩
  · exact fun j => by rw [gd_take]; split
                      · exact h5 j
                      · decide
/-- the words that trim keeps -/
theorem trim_take {l : List Nat} (hu : U32 l) (k : Nat) (hk : k ≤ l.length) (h0 : ∀ j, k ≤ j → gd l j = 0) (hc : k = 0 ∨ gd l (k - 1) ≠ 0) : l.take k = wd (val l) := by
  rw [← val_take_zeros k h0]
  apply clean_eq (fun j => by rw [gd_take]; split
                              · exact hu j
                              · decide)
  rcases hc with rfl | hc
  · exact .inl (by simp)
  · by_cases hz : k = 0
    · subst hz; exact .inl (by simp)
    · right
      have hl : (l.take k).length = k := by rw [List.length_take]; omega
      rw [hl, gd_take, if_pos (by omega)]; exact hc

set_option maxRecDepth 100000 in
set_option maxHeartbeats 800000 in
theorem trim_own (v : Value) (l : List Nat) (w : World) (h : Num w v l) (hl : l.length ≤ 1000000) :
    Calls Tryd.prog 48 #[v] w (RetOwn w fun r => r = wd (val l)) := by
  obtain ⟨ao, c, rfl, hc, hc2, _⟩ := h.shape
  have hu := h.lt
  have HU := Lib.hid hu
  clear hu
  go_enter Tryd.func48, Tryd.ntmps48
  go_wp2_with fail
  go_loop [3] (fun n => ∃ k : Nat, k ≤ l.length ∧ n = .int .i64 k ∧ Hid (∀ j, k ≤ j → gd l j = 0)) (fun n => (intOf n).toNat)
  case atStart => exact ⟨l.length, Nat.le_refl _, rfl, Lib.hid fun j hj => gd_over _ _ hj⟩
  case round =>
    obtain ⟨k, hk, rfl, hz⟩ := hrel
    by_cases hk0 : k = 0
    · subst hk0
      have hv : val l = 0 := by
        have := val_take_zeros 0 hz.out
        rw [← this]; rfl
      have HV := Lib.hid hv; clear hv
      go_wp2_with fail
      go_ret
      exact ⟨_, [], rfl, Below.refl _ _, OwnW.nil _ _ _, by rw [HV.out, wd_zero]⟩
    · obtain ⟨b, off, rfl, hbs, hcell⟩ := h.at (by omega)
      have hx := hcell (k - 1) (by omega)
      have hx' : w.cell? ⟨b, off + (k - 1), none⟩ = _ := hx
      have hxl := HU.out (k - 1)
      obtain ⟨x, hxe⟩ : ∃ x, x = gd l (k - 1) := ⟨_, rfl⟩
      rw [← hxe] at hx hxl
      obtain ⟨m, rfl⟩ : ∃ m, k = m + 1 := ⟨k - 1, by omega⟩
      simp only [Nat.add_sub_cancel] at hx hxe
      have HX := Lib.hid hxe; clear hxe hx' hcell
      by_cases hx0 : x = 0
      · subst hx0
        go_wp2_with fail
        go_round
        case rel =>
          refine ⟨m, by omega, by go_num, Lib.hid fun j hj => ?_⟩
          by_cases hjm : j = m
          · rw [hjm, ← HX.out]
          · exact hz.out j (by omega)
        case measure => simp [intOf]
      · have hd : ((x : Int) == 0) = false := by simp; omega
        have hne : gd l (m + 1 - 1) ≠ 0 := by rw [Nat.add_sub_cancel, ← HX.out]; exact hx0
        have HT := Lib.hid (trim_take HU.out (m + 1) hk hz.out (.inr hne))
        have hnum := h.take (m + 1) hk
        have HN := Lib.hid hnum
        clear hnum hne hx0
        have hown := own_lit w 38 w.heap.size #[] [] 0 (Nat.le_refl _) U32.nil rfl (by simp) rfl
        have HO := Lib.hid hown; clear hown
        go_wp2_with (at_builtin; refine wpList_appendN Tryd.wordsTy rfl (.tmp 20) (.tmp 23) rfl w.heap.size _ _ [] (l.take (m + 1)) rfl rfl HO.out (HN.out.below ((Below.refl _ _).alloc (Nat.le_refl _) _)) ?c1 ?c2 ?_)
        case c1 => omega
        intro v' w1 h1 h2 h3
        have h4 := h2 w ((Below.refl _ _).alloc (Nat.le_refl _) _)
        go_wp2_with fail
        go_ret
        exact ⟨_, _, rfl, h4, h1, HT.out⟩
theorem trim_any (v : Value) (l : List Nat) (w : World) (h : Num w v l) (hl : l.length ≤ 1000000) :
    Calls Tryd.prog 48 #[v] w (RetNum w fun r => r = wd (val l)) := by
  refine (trim_own v l w h hl).mono ?_
  rintro e w' ⟨v', l', he, hb, ho, hr⟩
  exact ⟨v', l', he, hb, ho.num, hr⟩
set_option maxRecDepth 100000 in
set_option maxHeartbeats 800000 in
theorem rtrim_own (v : Value) (l : List Nat) (w : World) (h : Num w v l) (hl : l.length ≤ 1000000) :
    Calls Tryd.prog 55 #[v] w (RetOwn w fun r => r = wd (val l)) := by
  obtain ⟨ao, c, rfl, hc, hc2, _⟩ := h.shape
  have hu := h.lt
  have HU := Lib.hid hu
  clear hu
  go_enter Tryd.func55, Tryd.ntmps55
  go_wp2_with fail
  go_loop [3] (fun n => ∃ k : Nat, k ≤ l.length ∧ n = .int .i64 k ∧ Hid (∀ j, k ≤ j → gd l j = 0)) (fun n => (intOf n).toNat)
  case atStart => exact ⟨l.length, Nat.le_refl _, rfl, Lib.hid fun j hj => gd_over _ _ hj⟩
  case round =>
    obtain ⟨k, hk, rfl, hz⟩ := hrel
    by_cases hk0 : k = 0
    · subst hk0
      have hv : val l = 0 := by
        have := val_take_zeros 0 hz.out
        rw [← this]; rfl
      have HV := Lib.hid hv; clear hv
      have hown := own_lit w 38 w.heap.size #[] [] 0 (Nat.le_refl _) U32.nil rfl (by simp) rfl
      have hnum := h.take 0 (Nat.zero_le _)
      have HO := Lib.hid hown; have HN := Lib.hid hnum; clear hown hnum
      go_wp2_with (at_builtin; refine wpList_appendN Tryd.wordsTy rfl (.tmp 18) (.tmp 21) rfl w.heap.size _ _ [] (l.take 0) rfl rfl HO.out (HN.out.below ((Below.refl _ _).alloc (Nat.le_refl _) _)) ?c1 ?c2 ?_)
      intro v' w1 h1 h2 h3
      have h4 := h2 w ((Below.refl _ _).alloc (Nat.le_refl _) _)
      go_wp2_with fail
      go_ret
      exact ⟨_, _, rfl, h4, h1, by show _ = wd (val l); rw [HV.out, wd_zero]⟩
    · obtain ⟨b, off, rfl, hbs, hcell⟩ := h.at (by omega)
      have hx := hcell (k - 1) (by omega)
      have hx' : w.cell? ⟨b, off + (k - 1), none⟩ = _ := hx
      have hxl := HU.out (k - 1)
      obtain ⟨x, hxe⟩ : ∃ x, x = gd l (k - 1) := ⟨_, rfl⟩
      rw [← hxe] at hx hxl
      obtain ⟨m, rfl⟩ : ∃ m, k = m + 1 := ⟨k - 1, by omega⟩
      simp only [Nat.add_sub_cancel] at hx hxe
      have HX := Lib.hid hxe; clear hxe hx' hcell
      by_cases hx0 : x = 0
      · subst hx0
        go_wp2_with fail
        go_round
        case rel =>
          refine ⟨m, by omega, by go_num, Lib.hid fun j hj => ?_⟩
          by_cases hjm : j = m
          · rw [hjm, ← HX.out]
          · exact hz.out j (by omega)
        case measure => simp [intOf]
      · have hd : ((x : Int) == 0) = false := by simp; omega
        have hne : gd l (m + 1 - 1) ≠ 0 := by rw [Nat.add_sub_cancel, ← HX.out]; exact hx0
        have HT := Lib.hid (trim_take HU.out (m + 1) hk hz.out (.inr hne))
        have hnum := h.take (m + 1) hk
        have HN := Lib.hid hnum
        clear hnum hne hx0
        have hown := own_lit w 38 w.heap.size #[] [] 0 (Nat.le_refl _) U32.nil rfl (by simp) rfl
        have HO := Lib.hid hown; clear hown
        go_wp2_with (at_builtin; refine wpList_appendN Tryd.wordsTy rfl (.tmp 18) (.tmp 21) rfl w.heap.size _ _ [] (l.take (m + 1)) rfl rfl HO.out (HN.out.below ((Below.refl _ _).alloc (Nat.le_refl _) _)) ?e1 ?e2 ?_)
        case e1 => omega
        intro v' w1 h1 h2 h3
        have h4 := h2 w ((Below.refl _ _).alloc (Nat.le_refl _) _)
        go_wp2_with fail
        go_ret
        exact ⟨_, _, rfl, h4, h1, HT.out⟩

theorem rtrim_any (v : Value) (l : List Nat) (w : World) (h : Num w v l) (hl : l.length ≤ 1000000) :
    Calls Tryd.prog 55 #[v] w (RetNum w fun r => r = wd (val l)) := by
  refine (rtrim_own v l w h hl).mono ?_
  rintro e w' ⟨v', l', he, hb, ho, hr⟩
  exact ⟨v', l', he, hb, ho.num, hr⟩

set_option maxHeartbeats 400000 in
theorem word_any (v : Value) (l : List Nat) (i : Int) (w : World) (h : Num w v l) (h0 : 0 ≤ i) (h1 : i < 9223372036854775807) :
    Calls Tryd.prog 59 #[v, .int .i64 i] w (RetS w (.int .u64 (gd l i.toNat : Nat))) := by
  obtain ⟨ao, c, rfl, hc, hc2, _⟩ := h.shape
  obtain ⟨k, rfl⟩ := Int.eq_ofNat_of_zero_le h0
  by_cases hk : k < l.length
  · obtain ⟨b, off, rfl, _, hcell⟩ := h.at (by omega)
    have hx := hcell k hk
    have hlt := h.lt k
    clear hcell h
    go_enter Tryd.func59, Tryd.ntmps59
    go_wp2_with fail
    go_ret
    exact ⟨by simp, rfl⟩
  · have hz := gd_over l k (by omega)
    have HZ := Lib.hid hz; clear hz
    go_enter Tryd.func59, Tryd.ntmps59
    go_wp2_with fail
    go_ret
    exact ⟨by simp [HZ.out], rfl⟩

set_option maxHeartbeats 400000 in
theorem rword_any (v : Value) (l : List Nat) (i : Int) (w : World) (h : Num w v l) (h0 : 0 ≤ i) (h1 : i < 9223372036854775807) :
    Calls Tryd.prog 57 #[v, .int .i64 i] w (RetS w (.int .u64 (gd l i.toNat : Nat))) := by
  obtain ⟨ao, c, rfl, hc, hc2, _⟩ := h.shape
  obtain ⟨k, rfl⟩ := Int.eq_ofNat_of_zero_le h0
  by_cases hk : k < l.length
  · obtain ⟨b, off, rfl, _, hcell⟩ := h.at (by omega)
    have hx := hcell k hk
    have hlt := h.lt k
    clear hcell h
    go_enter Tryd.func57, Tryd.ntmps57
    go_wp2_with fail
    go_ret
    exact ⟨by simp, rfl⟩
  · have hz := gd_over l k (by omega)
    have HZ := Lib.hid hz; clear hz
    go_enter Tryd.func57, Tryd.ntmps57
    go_wp2_with fail
    go_ret
    exact ⟨by simp [HZ.out], rfl⟩
end Go.Proofs.YtdepoikifneggaaDoor
