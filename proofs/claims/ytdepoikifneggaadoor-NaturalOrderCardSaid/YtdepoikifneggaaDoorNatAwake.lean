/-
  faultlinelaw01.awake: the document's examples are answered as the document says.
  Conditions: none.
-/
import Derived.Test.YtdepoikifneggaaDoorNatLaw0
namespace Go.Proofs.YtdepoikifneggaaDoor
open Go.RowKit Go.ChangeShapes Go.WideShapes

theorem decB_nine {n : Nat} (h : n < 1000000000) (h0 : n ≠ 0) : decB n = ⟨(Lib.trimLeftB (padD 9 n).reverse 48).toArray⟩ := by
  unfold decB
  rw [if_neg h0, trim_pad 9 n h h0]
theorem dec_a : decB 613566756 = ⟨#[54, 49, 51, 53, 54, 54, 55, 53, 54]⟩ := by rw [decB_nine (by decide) (by decide)]; rfl
theorem dec_b : decB 4 = ⟨#[52]⟩ := by rw [decB_nine (by decide) (by decide)]; rfl

set_option maxRecDepth 100000 in
set_option maxHeartbeats 4000000 in
theorem awake_any (w : World) : Calls Tryd.prog 14 #[] w (RetV w (.bool true)) := by
  have hl := num_lit w 38 #[.int .u32 0, .int .u32 1] [0, 1] 2 (U32.cons (by decide) (U32.cons (by decide) U32.nil)) rfl (by simp) rfl
  have HL := Lib.hid hl
  have h7 := of_any 7 (w.alloc (.cells #[.int .u32 0, .int .u32 1] 38)) (by decide) (by decide)
  have H7 := Lib.hid h7
  clear hl h7
  go_enter Tryd.func14, Tryd.ntmps14
  go_wp2_with fail
  (with_reducible refine H7.out.mono ?_); rintro e w1 ⟨v1, l1, rfl, hb1, hn1, hl1⟩
  have hB1 := ((Below.refl w.heap.size w).alloc (Nat.le_refl _) (.cells #[.int .u32 0, .int .u32 1] 38)).trans (hb1.mono (by simp))
  rw [hl1, show (7 : Int).toNat = 7 from rfl] at hn1
  have hd := div_any _ _ _ _ _ (HL.out.below hb1) hn1 (by simp) (by rw [wd_one (by decide) (by decide)]; simp) (by rw [val_wd]; decide)
  rw [val_wd, show val [0, 1] = 4294967296 from rfl, show 4294967296 / 7 = 613566756 from rfl, show 4294967296 % 7 = 4 from rfl, errV_zero] at hd
  have HD := Lib.hid hd; have HB1 := Lib.hid hB1
  clear hd hn1 hl1 hb1 hB1
  go_wp2_with fail
  (with_reducible refine HD.out.mono ?_); rintro e w2 ⟨vq, vr, rfl, hb2, hq, hr⟩
  have HB2 := Lib.hid (HB1.out.trans (hb2.mono HB1.out.size))
  have ht := text_any vq _ w2 hq (by rw [wd_one (by decide) (by decide)]; simp)
  rw [val_wd, dec_a] at ht
  have HT := Lib.hid ht; have HR := Lib.hid hr
  clear ht hq hr hb2
  go_wp2_with fail
  (with_reducible refine HT.out.mono ?_); rintro e w3 ⟨rfl, hb3⟩
  have HB3 := Lib.hid (HB2.out.trans (hb3.mono HB2.out.size))
  have ht := text_any vr _ w3 (HR.out.below hb3) (by rw [wd_one (by decide) (by decide)]; simp)
  rw [val_wd, dec_b] at ht
  have HT := Lib.hid ht
  clear ht hb3
  go_wp2_with fail
  (with_reducible refine HT.out.mono ?_); rintro e w4 ⟨rfl, hb4⟩
  have HB4 := Lib.hid (HB3.out.trans (hb4.mono HB3.out.size))
  have h12 := of_any 12 w4 (by decide) (by decide)
  have H12 := Lib.hid h12
  clear h12 hb4
  go_wp2_with fail
  (with_reducible refine H12.out.mono ?_); rintro e w5 ⟨va, la, rfl, hb5, hna, hla⟩
  have HB5 := Lib.hid (HB4.out.trans (hb5.mono HB4.out.size))
  rw [hla, show (12 : Int).toNat = 12 from rfl] at hna
  have h18 := of_any 18 w5 (by decide) (by decide)
  have H18 := Lib.hid h18; have HNA := Lib.hid hna
  clear h18 hb5 hna hla
  go_wp2_with fail
  (with_reducible refine H18.out.mono ?_); rintro e w6 ⟨vb, lb, rfl, hb6, hnb, hlb⟩
  have HB6 := Lib.hid (HB5.out.trans (hb6.mono HB5.out.size))
  rw [hlb, show (18 : Int).toNat = 18 from rfl] at hnb
  have hg := gcd_any _ _ _ _ _ (HNA.out.below hb6) hnb (by rw [wd_one (by decide) (by decide)]; simp) (by rw [wd_one (by decide) (by decide)]; simp)
  rw [val_wd, val_wd, show Nat.gcd 12 18 = 6 from rfl] at hg
  have HG := Lib.hid hg
  clear hg hnb hlb hb6
  go_wp2_with fail
  (with_reducible refine HG.out.mono ?_); rintro e w7 ⟨vg, lg, rfl, hb7, hng, hlg⟩
  have HB7 := Lib.hid (HB6.out.trans (hb7.mono HB6.out.size))
  rw [hlg] at hng
  have h6 := num_one w7 38 6 (by decide)
  rw [← wd_one (n := 6) (by decide) (by decide), show ((6 : Nat) : Int) = 6 from rfl] at h6
  have hw := words_same vg _ 6 _ (hng.below ((Below.refl _ _).alloc (Nat.le_refl _) _)) h6 (by rw [wd_one (by decide) (by decide)]; simp)
  have HW := Lib.hid hw
  clear hw h6 hng hlg hb7
  go_wp2_with fail
  (with_reducible refine HW.out.mono ?_); rintro e w8 ⟨rfl, hb8⟩
  have HB8 := Lib.hid ((HB7.out.alloc HB7.out.size (.cells #[.int .u32 6] 38)).trans (hb8.mono (by simp; have := HB7.out.size; omega)))
  have h99 := of_any 99 w8 (by decide) (by decide)
  have H99 := Lib.hid h99
  clear h99 hb8
  go_wp2_with fail
  (with_reducible refine H99.out.mono ?_); rintro e w9 ⟨v9, l9, rfl, hb9, hn9, hl9⟩
  have HB9 := Lib.hid (HB8.out.trans (hb9.mono HB8.out.size))
  rw [hl9, show (99 : Int).toNat = 99 from rfl] at hn9
  have hro := root_any _ _ _ hn9 (by rw [wd_one (by decide) (by decide)]; simp)
  rw [val_wd] at hro
  have HRO := Lib.hid hro
  clear hro hn9 hl9 hb9
  go_wp2_with fail
  (with_reducible refine HRO.out.mono ?_); rintro e w10 ⟨vs, ls, rfl, hb10, hns, s, hls, hs⟩
  have HB10 := Lib.hid (HB9.out.trans (hb10.mono HB9.out.size))
  have hs9 : s = 9 := hs.unique ⟨by decide, by decide⟩
  rw [hls, hs9] at hns
  have h9 := num_one w10 38 9 (by decide)
  rw [← wd_one (n := 9) (by decide) (by decide), show ((9 : Nat) : Int) = 9 from rfl] at h9
  have hw := words_same vs _ 9 _ (hns.below ((Below.refl _ _).alloc (Nat.le_refl _) _)) h9 (by rw [wd_one (by decide) (by decide)]; simp)
  have HW := Lib.hid hw
  clear hw h9 hns hls hb10 hs hs9
  go_wp2_with fail
  (with_reducible refine HW.out.mono ?_); rintro e w11 ⟨rfl, hb11⟩
  have HB11 := Lib.hid ((HB10.out.alloc HB10.out.size (.cells #[.int .u32 9] 38)).trans (hb11.mono (by simp; have := HB10.out.size; omega)))
  clear hb11
  go_wp2_with fail
  go_ret
  exact ⟨rfl, HB11.out⟩
end Go.Proofs.YtdepoikifneggaaDoor
