/- The walk of ShareMeasures. (Printed by wip/ids/measures.py.) -/
import Derived.Test.YtigkjmfkpmehlaaShareKit
namespace Go.Proofs.Ytigkjmfkpmehlaa
open Go.RowKit

set_option maxRecDepth 100000 in
set_option maxHeartbeats 6400000 in
theorem measures_any {ys zs : List Int} {v u : Value} (w : World) (h : BS w v ys) (hy : ∀ x ∈ ys, 0 ≤ x ∧ x ≤ 255) (hl : ys.length ≤ 9223372036854775807) (k : BS w u zs) (ky : ∀ x ∈ zs, 0 ≤ x ∧ x ≤ 255) (hl2 : zs.length ≤ 9223372036854775807) : Calls Try.prog 11 #[v, u] w fun e w' => e = .returned (.bool true) ∧ Below w.heap.size w w' := by
  have HB := Lib.hid h
  have HY := Lib.hid hy
  have HB2 := Lib.hid k
  have HY2 := Lib.hid ky
  clear h hy k ky
  have hb := Below.refl w.heap.size w
  have hnd := mkT_norm ys
  have hnd2 := mkT_norm zs
  obtain ⟨t1, htt⟩ : ∃ t, mkT ys = t := ⟨_, rfl⟩
  obtain ⟨t2, htt2⟩ : ∃ t, mkT zs = t := ⟨_, rfl⟩
  rw [htt] at hnd
  rw [htt2] at hnd2
  have HM := Lib.hid htt
  have HM2 := Lib.hid htt2
  obtain ⟨n1, d1⟩ := hnd
  obtain ⟨n2, d2⟩ := hnd2
  have hd1 : t1.depth ≤ 16 := by omega
  have hd2 : t2.depth ≤ 16 := by omega
  have hd1s : t1.depth ≤ 100000 := by omega
  have hbd := both_depth t1 t2
  have hd12 : (t1.both t2).depth ≤ 16 := by omega
  have hsd := T.split_depth t1
  have hd3 : t1.split.1.depth ≤ 16 := by omega
  have hd4 : t1.split.2.depth ≤ 16 := by omega
  have HSP := Lib.hid (show splitR t1 = (t1.split.1, t1.split.2, 0) by unfold splitR; rw [if_pos (by omega)])
  have hsum := split_wd hd3 hd4 hd1
  obtain ⟨D, hD⟩ : ∃ D, t1.disj t2 = D := ⟨_, rfl⟩
  have hcd := common_disj n1 n2 hd1 hd2
  rw [hD] at hcd
  have hcomm := both_comm n2 n1
  have hc1 := ct_small hd1
  have hc3 := ct_small hd12
  obtain ⟨s1, hs1⟩ : ∃ s, t1.split.1 = s := ⟨_, rfl⟩
  obtain ⟨s2, hs2⟩ : ∃ s, t1.split.2 = s := ⟨_, rfl⟩
  obtain ⟨t3, ht3⟩ : ∃ s, t1.both t2 = s := ⟨_, rfl⟩
  rw [hs1] at HSP hd3 hsum
  rw [hs2] at HSP hd4 hsum
  rw [ht3] at hd12 hcd hcomm hc3
  obtain ⟨W1, eW1⟩ : ∃ n, wd t1 65536 = n := ⟨_, rfl⟩
  obtain ⟨WC, eWC⟩ : ∃ n, wd t3 65536 = n := ⟨_, rfl⟩
  obtain ⟨Wa, eWa⟩ : ∃ n, wd s1 65536 = n := ⟨_, rfl⟩
  obtain ⟨Wb, eWb⟩ : ∃ n, wd s2 65536 = n := ⟨_, rfl⟩
  have hw1 : W1 < 2 ^ 50 := by have := wd_le t1 65536; omega
  have hwc : WC < 2 ^ 50 := by have := wd_le t3 65536; omega
  have hwa : Wa ≤ 65536 := by have := wd_le s1 65536; omega
  have hwb : Wb ≤ 65536 := by have := wd_le s2 65536; omega
  rw [eW1, eWa, eWb] at hsum
  rw [eWC] at hcd
  have fadd := fl_add (a := Wa) (b := Wb) (by omega)
  rw [hsum] at fadd
  have fz := fl_eq (a := WC) (b := 0) (by omega) (by omega)
  rw [fl_0, hcd] at fz
  obtain ⟨L1, hX1⟩ : ∃ l, spN t1 0 65536 = l := ⟨_, rfl⟩
  obtain ⟨L3, hX3⟩ : ∃ l, spN t3 0 65536 = l := ⟨_, rfl⟩
  have hL1 : L1.length = ct t1 := by rw [← hX1, len_sp]
  have hL3 : L3.length = ct t3 := by rw [← hX3, len_sp]
  have hl1 : L1.length ≤ 1000000 := by omega
  have hlc : L3.length ≤ 1000000 := by omega
  have HW1 := Lib.hid (show wsum L1 = W1 by rw [← hX1, wsum_sp, eW1])
  have HWC := Lib.hid (show wsum L3 = WC by rw [← hX3, wsum_sp, eWC])
  have fl1 : floatOfInt .f64 ((L1.length : Nat) : Int) = fl (65536 * ct t1) := by rw [hL1]; exact fl_int (by omega)
  have fl3 : floatOfInt .f64 ((L3.length : Nat) : Int) = fl (65536 * ct t3) := by rw [hL3]; exact fl_int (by omega)
  have k1 := fl_self (n := W1) (by omega)
  have kc := fl_self (n := WC) (by omega)
  have j1 := fl_self (n := 65536 * ct t1) (by omega)
  have jc := fl_self (n := 65536 * ct t3) (by omega)
  obtain ⟨x1, hx1⟩ : ∃ x, fl W1 = x := ⟨_, rfl⟩
  obtain ⟨xc, hxc⟩ : ∃ x, fl WC = x := ⟨_, rfl⟩
  obtain ⟨xa, hxa⟩ : ∃ x, fl Wa = x := ⟨_, rfl⟩
  obtain ⟨xb, hxb⟩ : ∃ x, fl Wb = x := ⟨_, rfl⟩
  obtain ⟨y1, hy1⟩ : ∃ x, fl (65536 * ct t1) = x := ⟨_, rfl⟩
  obtain ⟨yc, hyc⟩ : ∃ x, fl (65536 * ct t3) = x := ⟨_, rfl⟩
  obtain ⟨ya, hya⟩ : ∃ x, fl (65536 * ct s1) = x := ⟨_, rfl⟩
  obtain ⟨yb, hyb⟩ : ∃ x, fl (65536 * ct s2) = x := ⟨_, rfl⟩
  have HM1 := Lib.hid (show fl (wd t1 65536) = x1 by rw [eW1, hx1])
  have HM3 := Lib.hid (show fl (wd s1 65536) = xa by rw [eWa, hxa])
  have HM4 := Lib.hid (show fl (wd s2 65536) = xb by rw [eWb, hxb])
  have HMC := Lib.hid (show fl (wd (t1.both t2) 65536) = xc by rw [ht3, eWC, hxc])
  have HMC2 := Lib.hid (show fl (wd (t2.both t1) 65536) = xc by rw [hcomm, eWC, hxc])
  have HN1 := Lib.hid hy1
  have HN3 := Lib.hid hya
  have HN4 := Lib.hid hyb
  have HNC := Lib.hid (show fl (65536 * ct (t1.both t2)) = yc by rw [ht3, hyc])
  have HNC2 := Lib.hid (show fl (65536 * ct (t2.both t1)) = yc by rw [hcomm, hyc])
  have HI1 := Lib.hid hx1
  have HIC := Lib.hid hxc
  have HX1 := Lib.hid hX1
  have HX3 := Lib.hid hX3
  rw [hxa, hxb, hx1] at fadd
  rw [hxc] at fz kc
  rw [hx1] at k1
  rw [hy1] at j1 fl1
  rw [hyc] at jc fl3
  have fsum := run_fb (.inr rfl) fadd
  have HT3 := Lib.hid ht3
  clear htt htt2 n1 n2 d1 d2 hbd hsd hs1 hs2 hsum hcd hcomm eW1 eWC eWa eWb hwa hwb hL1 hL3 hX1 hX3 hx1 hxc hxa hxb hy1 hyc hya hyb fadd ht3
  have HD := Lib.hid hD
  clear hD
  go_enter Try.func11, Try.ntmps11
  go_upto_region 4 with (first
    | (go_at_call 15; refine Calls.mono (awake3_any _) ?_; rintro e wn ⟨rfl, hk⟩; have hb := hb.trans (hk.mono hb.size); clear hk)
    | (go_at_call 42; refine Calls.mono (made3_is _ (HB.out.below hb) HY.out hl HM.out) ?_; rintro e wn ⟨v, p, rfl, hv, hp, hkk⟩; obtain ⟨o1, q1, rfl, ho⟩ := hv.shape'; have H1 := Lib.hid hv; have HP := Lib.hid hp; have hb := hb.trans (hkk.mono hb.size); clear hv hp hkk))
  have b1 := Bx.new wn o1 q1
  have H1 := Lib.hid (H1.out.alloc (.cells #[.bool o1, .pointer q1] 31))
  have HP := Lib.hid (HP.out.alloc (.cells #[.bool o1, .pointer q1] 31))
  have hb := hb.alloc hb.size (.cells #[.bool o1, .pointer q1] 31)
  generalize wn.alloc (.cells #[.bool o1, .pointer q1] 31) = wz at *
  obtain ⟨X1, eX1⟩ : ∃ X1, wn.heap.size = X1 := ⟨_, rfl⟩
  rw [eX1] at b1 ⊢
  go_upto_region 5 with (go_at_call 42; refine Calls.mono (made3_is _ (HB2.out.below hb) HY2.out hl2 HM2.out) ?_; rintro e wn ⟨v2, p2, rfl, hv, hp, hkk⟩; obtain ⟨o2, q2, rfl, ho⟩ := hv.shape'; have H2 := Lib.hid hv; have HQ := Lib.hid hp; have hb := hb.trans (hkk.mono hb.size); have b1 := b1.below hkk; have H1 := Lib.hid (H1.out.below hkk); have HP := Lib.hid (HP.out.below hkk); clear hv hp hkk)
  have b2 := Bx.new wn o2 q2
  have b1 := b1.alloc (.cells #[.bool o2, .pointer q2] 31)
  have H1 := Lib.hid (H1.out.alloc (.cells #[.bool o2, .pointer q2] 31))
  have H2 := Lib.hid (H2.out.alloc (.cells #[.bool o2, .pointer q2] 31))
  have HP := Lib.hid (HP.out.alloc (.cells #[.bool o2, .pointer q2] 31))
  have HQ := Lib.hid (HQ.out.alloc (.cells #[.bool o2, .pointer q2] 31))
  have hb := hb.alloc hb.size (.cells #[.bool o2, .pointer q2] 31)
  generalize wn.alloc (.cells #[.bool o2, .pointer q2] 31) = wz at *
  obtain ⟨X2, eX2⟩ : ∃ X2, wn.heap.size = X2 := ⟨_, rfl⟩
  rw [eX2] at b2 ⊢
  have c10 := b1.c0
  have c11 := b1.c1
  have c20 := b2.c0
  have c21 := b2.c1
  obtain ⟨g1, _, _, rfl, _⟩ := HP.out.shape
  obtain ⟨g2, _, _, rfl, _⟩ := HQ.out.shape
  go_upto_region 6 with (first
    | (go_at_call_of 43 (Value.pointer (some ⟨g1, 0, none⟩)); refine Calls.mono (rspans_at _ HP.out hc1 HX1.out) ?_; rintro e wn ⟨u, rfl, hu, hkk⟩; obtain ⟨aA, cA, rfl⟩ := hu.len; have hb := hb.trans (hkk.mono hb.size); have b1 := b1.below hkk; have b2 := b2.below hkk; have H1 := Lib.hid (H1.out.below hkk); have H2 := Lib.hid (H2.out.below hkk); have HP := Lib.hid (HP.out.below hkk); have HQ := Lib.hid (HQ.out.below hkk); clear c10 c11 c20 c21; have c10 := b1.c0; have c11 := b1.c1; have c20 := b2.c0; have c21 := b2.c1; clear hkk; have HA := Lib.hid hu; clear hu)
    | (go_at_call 44; refine Calls.mono (rboth_at _ HP.out HQ.out HT3.out) ?_; rintro e wn ⟨u, rfl, hu, hkk⟩; obtain ⟨g3, _, _, rfl, _⟩ := hu.shape; have hb := hb.trans (hkk.mono hb.size); have b1 := b1.below hkk; have b2 := b2.below hkk; have H1 := Lib.hid (H1.out.below hkk); have H2 := Lib.hid (H2.out.below hkk); have HP := Lib.hid (HP.out.below hkk); have HQ := Lib.hid (HQ.out.below hkk); have HA := Lib.hid (HA.out.below hkk); clear c10 c11 c20 c21; have c10 := b1.c0; have c11 := b1.c1; have c20 := b2.c0; have c21 := b2.c1; clear hkk; have HBB := Lib.hid hu; clear hu)
    | (go_at_call_of 43 (Value.pointer (some ⟨g3, 0, none⟩)); refine Calls.mono (rspans_at _ HBB.out hc3 HX3.out) ?_; rintro e wn ⟨u, rfl, hu, hkk⟩; obtain ⟨aC, cC, rfl⟩ := hu.len; have hb := hb.trans (hkk.mono hb.size); have b1 := b1.below hkk; have b2 := b2.below hkk; have H1 := Lib.hid (H1.out.below hkk); have H2 := Lib.hid (H2.out.below hkk); have HP := Lib.hid (HP.out.below hkk); have HQ := Lib.hid (HQ.out.below hkk); have HA := Lib.hid (HA.out.below hkk); clear c10 c11 c20 c21; have c10 := b1.c0; have c11 := b1.c1; have c20 := b2.c0; have c21 := b2.c1; clear hkk; have HC := Lib.hid hu; clear hu))
  clear c10 c11 c20 c21
  have hb := bdrew hb
  have b1 := b1.drew
  have b2 := b2.drew
  have H1 := Lib.hid H1.out.drew
  have H2 := Lib.hid H2.out.drew
  have HA := Lib.hid HA.out.drew
  have HC := Lib.hid HC.out.drew
  go_region_held3 (fun w' => w'.cell? ⟨X1, 0, none⟩ = some (.bool o1) ∧ w'.cell? ⟨X1, 1, none⟩ = some (.pointer q1) ∧ w'.cell? ⟨X2, 0, none⟩ = some (.bool o2) ∧ w'.cell? ⟨X2, 1, none⟩ = some (.pointer q2)) (exact ⟨b1.c0, b1.c1, b2.c0, b2.c1⟩)
    (first
      | (go_at_call 45; (with_reducible refine Calls.mono (Measure_at _ H1.out hd1 HM1.out HN1.out) ?_); rintro e wn ⟨rfl, hkk⟩; have hb := hb.trans (hkk.mono hb.size); have b1 := b1.below hkk; have b2 := b2.below hkk; have H1 := Lib.hid (H1.out.below hkk); have H2 := Lib.hid (H2.out.below hkk); have HA := Lib.hid (HA.out.below hkk); have HC := Lib.hid (HC.out.below hkk); clear hkk)
      | (go_at_call 46; (with_reducible refine Calls.mono (Common_at _ hd1 hd2 H1.out H2.out HMC.out HNC.out) ?_); rintro e wn ⟨rfl, hkk⟩; have hb := hb.trans (hkk.mono hb.size); have b1 := b1.below hkk; have b2 := b2.below hkk; have H1 := Lib.hid (H1.out.below hkk); have H2 := Lib.hid (H2.out.below hkk); have HA := Lib.hid (HA.out.below hkk); have HC := Lib.hid (HC.out.below hkk); clear hkk))
  have c10 := b1.c0
  have c11 := b1.c1
  have c20 := b2.c0
  have c21 := b2.c1
  go_upto_region 9 with (first
    | (go_at_call 48; (with_reducible refine Calls.mono (rwide_at _ HA.out HW1.out hw1 hl1) ?_); rintro e wn ⟨rfl, hkk⟩; have hb := hb.trans (hkk.mono hb.size); have b1 := b1.below hkk; have b2 := b2.below hkk; have H1 := Lib.hid (H1.out.below hkk); have H2 := Lib.hid (H2.out.below hkk); have HA := Lib.hid (HA.out.below hkk); have HC := Lib.hid (HC.out.below hkk); clear c10 c11 c20 c21; have c10 := b1.c0; have c11 := b1.c1; have c20 := b2.c0; have c21 := b2.c1; clear hkk)
    | (go_at_call 48; (with_reducible refine Calls.mono (rwide_at _ HC.out HWC.out hwc hlc) ?_); rintro e wn ⟨rfl, hkk⟩; have hb := hb.trans (hkk.mono hb.size); have b1 := b1.below hkk; have b2 := b2.below hkk; have H1 := Lib.hid (H1.out.below hkk); have H2 := Lib.hid (H2.out.below hkk); have HA := Lib.hid (HA.out.below hkk); have HC := Lib.hid (HC.out.below hkk); clear c10 c11 c20 c21; have c10 := b1.c0; have c11 := b1.c1; have c20 := b2.c0; have c21 := b2.c1; clear hkk)
    | (go_at_call 47; (with_reducible refine Calls.mono (is_at _ hw1 HI1.out) ?_); rintro e wn ⟨rfl, hkk⟩; have hb := hb.trans (hkk.mono hb.size); have b1 := b1.below hkk; have b2 := b2.below hkk; have H1 := Lib.hid (H1.out.below hkk); have H2 := Lib.hid (H2.out.below hkk); have HA := Lib.hid (HA.out.below hkk); have HC := Lib.hid (HC.out.below hkk); clear c10 c11 c20 c21; have c10 := b1.c0; have c11 := b1.c1; have c20 := b2.c0; have c21 := b2.c1; clear hkk)
    | (go_at_call 47; (with_reducible refine Calls.mono (is_at _ hwc HIC.out) ?_); rintro e wn ⟨rfl, hkk⟩; have hb := hb.trans (hkk.mono hb.size); have b1 := b1.below hkk; have b2 := b2.below hkk; have H1 := Lib.hid (H1.out.below hkk); have H2 := Lib.hid (H2.out.below hkk); have HA := Lib.hid (HA.out.below hkk); have HC := Lib.hid (HC.out.below hkk); clear c10 c11 c20 c21; have c10 := b1.c0; have c11 := b1.c1; have c20 := b2.c0; have c21 := b2.c1; clear hkk)
    | (go_at_call 22; (with_reducible refine Calls.mono (disj_is _ H1.out H2.out HD.out) ?_); rintro e wn ⟨rfl, hkk⟩; have hb := hb.trans (hkk.mono hb.size); have b1 := b1.below hkk; have b2 := b2.below hkk; have H1 := Lib.hid (H1.out.below hkk); have H2 := Lib.hid (H2.out.below hkk); have HA := Lib.hid (HA.out.below hkk); have HC := Lib.hid (HC.out.below hkk); clear c10 c11 c20 c21; have c10 := b1.c0; have c11 := b1.c1; have c20 := b2.c0; have c21 := b2.c1; clear hkk)
    | (go_at_call 46; (with_reducible refine Calls.mono (Common_at _ hd2 hd1 H2.out H1.out HMC2.out HNC2.out) ?_); rintro e wn ⟨rfl, hkk⟩; have hb := hb.trans (hkk.mono hb.size); have b1 := b1.below hkk; have b2 := b2.below hkk; have H1 := Lib.hid (H1.out.below hkk); have H2 := Lib.hid (H2.out.below hkk); have HA := Lib.hid (HA.out.below hkk); have HC := Lib.hid (HC.out.below hkk); clear c10 c11 c20 c21; have c10 := b1.c0; have c11 := b1.c1; have c20 := b2.c0; have c21 := b2.c1; clear hkk))
  go_upto_region 10 with (go_at_call 19; refine Calls.mono (split_is _ H1.out hd1s HSP.out) ?_; rintro e wn ⟨v, v2, rfl, hv, hv2, hkk⟩; obtain ⟨o3, q3, rfl, ho3⟩ := hv.shape'; have H3 := Lib.hid hv; clear hv; obtain ⟨o4, q4, rfl, ho4⟩ := hv2.shape'; have H4 := Lib.hid hv2; clear hv2; have hb := hb.trans (hkk.mono hb.size); have b1 := b1.below hkk; have H1 := Lib.hid (H1.out.below hkk); clear hkk)
  have b3 := (Bx.new wn o3 q3).alloc (.cells #[.bool o4, .pointer q4] 31)
  have b4 := Bx.new1 wn o4 q4 (.cells #[.bool o3, .pointer q3] 31)
  have H3 := Lib.hid ((H3.out.alloc (.cells #[.bool o3, .pointer q3] 31)).alloc (.cells #[.bool o4, .pointer q4] 31))
  have H4 := Lib.hid ((H4.out.alloc (.cells #[.bool o3, .pointer q3] 31)).alloc (.cells #[.bool o4, .pointer q4] 31))
  have hb := (hb.alloc hb.size (.cells #[.bool o3, .pointer q3] 31)).alloc (by simp only [asz]; have := hb.size; omega) (.cells #[.bool o4, .pointer q4] 31)
  generalize (wn.alloc (.cells #[.bool o3, .pointer q3] 31)).alloc (.cells #[.bool o4, .pointer q4] 31) = wz at *
  obtain ⟨X3, eX3⟩ : ∃ X3, wn.heap.size = X3 := ⟨_, rfl⟩
  rw [eX3] at b3 b4 ⊢
  obtain ⟨X4, eX4⟩ : ∃ X4, X3 + 1 = X4 := ⟨_, rfl⟩
  rw [eX4] at b4 ⊢
  have hb := bdrew hb
  have b3 := b3.drew
  have b4 := b4.drew
  have H3 := Lib.hid H3.out.drew
  have H4 := Lib.hid H4.out.drew
  go_region_held3 (fun w' => w'.cell? ⟨X3, 0, none⟩ = some (.bool o3) ∧ w'.cell? ⟨X3, 1, none⟩ = some (.pointer q3) ∧ w'.cell? ⟨X4, 0, none⟩ = some (.bool o4) ∧ w'.cell? ⟨X4, 1, none⟩ = some (.pointer q4)) (exact ⟨b3.c0, b3.c1, b4.c0, b4.c1⟩)
    (first
      | (go_at_call 45; (with_reducible refine Calls.mono (Measure_at _ H3.out hd3 HM3.out HN3.out) ?_); rintro e wn ⟨rfl, hkk⟩; have hb := hb.trans (hkk.mono hb.size); have b3 := b3.below hkk; have b4 := b4.below hkk; have H3 := Lib.hid (H3.out.below hkk); have H4 := Lib.hid (H4.out.below hkk); clear hkk)
      | (go_at_call 45; (with_reducible refine Calls.mono (Measure_at _ H4.out hd4 HM4.out HN4.out) ?_); rintro e wn ⟨rfl, hkk⟩; have hb := hb.trans (hkk.mono hb.size); have b3 := b3.below hkk; have b4 := b4.below hkk; have H3 := Lib.hid (H3.out.below hkk); have H4 := Lib.hid (H4.out.below hkk); clear hkk))
  all_goals
    go_wp2_with fail
    go_ret
    exact ⟨by trivial, hb⟩
end Go.Proofs.Ytigkjmfkpmehlaa
