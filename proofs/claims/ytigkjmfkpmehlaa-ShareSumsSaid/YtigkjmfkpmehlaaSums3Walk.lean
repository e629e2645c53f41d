/- The walk of ShareSums. (Printed by wip/ids/sums3.py.) -/
import Derived.Test.YtigkjmfkpmehlaaShareKit
namespace Go.Proofs.Ytigkjmfkpmehlaa
open Go.RowKit

theorem sum_dep : ∀ (a b : T), (a.sum b).depth ≤ max a.depth b.depth
  | .z, b => by simp [T.sum, T.depth]
  | .o, b => by simp [T.sum, T.depth]
  | .n a b, .z => by simp only [T.sum]; omega
  | .n a b, .o => by simp [T.sum, T.depth]
  | .n a b, .n c d => by
    have h1 := sum_dep a c
    have h2 := sum_dep b d
    have h3 := T.pair_depth (a.sum c) (b.sum d)
    simp only [T.sum, T.depth] at *
    omega
/-- What stood is as it was. -/
def BelA (a w : World) : Prop := Below a.heap.size a w
/-- The sum of two that are apart measures as much as both. -/
def SumW (ts : T) (x1 xB : Nat) : Prop := ∃ xs ys, Hid (ts.depth ≤ 16) ∧ Hid (fl (wd ts 65536) = xs) ∧ Hid (fl (65536 * ct ts) = ys) ∧ Hid (floatBits .add .f64 x1 xB = some xs) ∧ Hid (FloatKind.f64.format.order xs xs = some .eq)
theorem sumCase {t1 t2 : T} {W1 WB x1 xB xs : Nat} {hxs : fl (W1 + WB) = xs} (n1 : t1.norm = true) (n2 : t2.norm = true) (hd1 : t1.depth ≤ 16) (hd2 : t2.depth ≤ 16) (e1 : wd t1 65536 = W1) (e2 : wd t2 65536 = WB)
    (fs : floatBits .add .f64 x1 xB = some xs) (ks : FloatKind.f64.format.order xs xs = some .eq) : ∃ ts es, Hid (sumR t1 t2 = (ts, es)) ∧ (es = 0 ∧ SumW ts x1 xB ∨ es = 5) := by
  cases hD : t1.disj t2 with
  | false => exact ⟨.z, 5, Lib.hid (by unfold sumR; rw [hD]; rfl), .inr rfl⟩
  | true =>
    have hd := sum_dep t1 t2
    have hd3 : (t1.sum t2).depth ≤ 16 := by omega
    have := sum_wd n1 n2 hd1 hd2 hd3 hD
    rw [e1, e2] at this
    exact ⟨t1.sum t2, 0, Lib.hid (by unfold sumR; rw [hD]; rfl), .inl ⟨rfl, xs, _, Lib.hid hd3, Lib.hid (by rw [this, hxs]), Lib.hid rfl, Lib.hid fs, Lib.hid ks⟩⟩

theorem one_fix (w : World) : Calls Try.prog 18 #[] w fun e w' => e = .returned (.agg #[.bool true, .pointer none]) ∧ Below w.heap.size w w' :=
  (one_any w).mono fun _ _ ⟨_, he, hv, hb⟩ => ⟨by rw [he]; exact congrArg Ending.returned hv, hb⟩
theorem zero_fix (w : World) : Calls Try.prog 21 #[] w fun e w' => e = .returned (.agg #[.bool false, .pointer none]) ∧ Below w.heap.size w w' :=
  (zero_any w).mono fun _ _ ⟨_, he, hv, hb⟩ => ⟨by rw [he]; exact congrArg Ending.returned hv, hb⟩

set_option maxRecDepth 100000 in
set_option maxHeartbeats 6400000 in
theorem ssums_any {ys zs : List Int} {v u : Value} (w : World) (h : BS w v ys) (hy : ∀ x ∈ ys, 0 ≤ x ∧ x ≤ 255) (hl : ys.length ≤ 9223372036854775807) (k : BS w u zs) (ky : ∀ x ∈ zs, 0 ≤ x ∧ x ≤ 255) (hl2 : zs.length ≤ 9223372036854775807) : Calls Try.prog 12 #[v, u] w fun e w' => e = .returned (.bool true) ∧ Below w.heap.size w w' := by
  have HB := Lib.hid h
  have HY := Lib.hid hy
  have HB2 := Lib.hid k
  have HY2 := Lib.hid ky
  clear h hy k ky
  have hb := Below.refl w.heap.size w
  have hnd := mkT_norm ys
  have hnd2 := mkT_norm zs
  obtain ⟨t1, htt⟩ : ∃ t, mkT ys = t := ⟨_, rfl⟩
  obtain ⟨t2, htt2⟩ : ∃ t, mkT zs = t := ⟨_, rfl⟩
  rw [htt] at hnd
  rw [htt2] at hnd2
  have HM := Lib.hid htt
  have HM2 := Lib.hid htt2
  obtain ⟨n1, d1⟩ := hnd
  obtain ⟨n2, d2⟩ := hnd2
  have hd1 : t1.depth ≤ 16 := by omega
  have hd2 : t2.depth ≤ 16 := by omega
  have hd2s : t2.depth ≤ 100000 := by omega
  have hbd := both_depth t1 t2
  have hd12 : (t1.both t2).depth ≤ 16 := by omega
  have hsd := T.split_depth t2
  have hd4 : t2.split.1.depth ≤ 16 := by omega
  have hd5 : t2.split.2.depth ≤ 16 := by omega
  have HSP := Lib.hid (show splitR t2 = (t2.split.1, t2.split.2, 0) by unfold splitR; rw [if_pos (by omega)])
  have hcs := both_split hd1 hd4 hd5 hd2
  have hc3 := ct_small hd12
  have hself := both_self n1
  have hone := both_o n1
  have hzero : T.both .z t2 = .z := rfl
  obtain ⟨s1, hs1⟩ : ∃ s, t2.split.1 = s := ⟨_, rfl⟩
  obtain ⟨s2, hs2⟩ : ∃ s, t2.split.2 = s := ⟨_, rfl⟩
  obtain ⟨t3, ht3⟩ : ∃ s, t1.both t2 = s := ⟨_, rfl⟩
  rw [hs1] at HSP hd4 hcs
  rw [hs2] at HSP hd5 hcs
  rw [ht3] at hd12 hcs hc3
  obtain ⟨W1, eW1⟩ : ∃ n, wd t1 65536 = n := ⟨_, rfl⟩
  obtain ⟨WB, eWB⟩ : ∃ n, wd t2 65536 = n := ⟨_, rfl⟩
  obtain ⟨WC, eWC⟩ : ∃ n, wd t3 65536 = n := ⟨_, rfl⟩
  obtain ⟨Wa, eWa⟩ : ∃ n, wd (t1.both s1) 65536 = n := ⟨_, rfl⟩
  obtain ⟨Wb, eWb⟩ : ∃ n, wd (t1.both s2) 65536 = n := ⟨_, rfl⟩
  have hw1 : W1 < 2 ^ 50 := by have := wd_le t1 65536; omega
  have hwB : WB < 2 ^ 50 := by have := wd_le t2 65536; omega
  have hwc : WC < 2 ^ 50 := by have := wd_le t3 65536; omega
  have hwa : Wa ≤ 65536 := by have := wd_le (t1.both s1) 65536; omega
  have hwb : Wb ≤ 65536 := by have := wd_le (t1.both s2) 65536; omega
  rw [eWC, eWa, eWb] at hcs
  have fadd := fl_add (a := Wa) (b := Wb) (by omega)
  rw [hcs] at fadd
  obtain ⟨L3, hX3⟩ : ∃ l, spN t3 0 65536 = l := ⟨_, rfl⟩
  have hL3 : L3.length = ct t3 := by rw [← hX3, len_sp]
  have hlc : L3.length ≤ 1000000 := by omega
  have HWC := Lib.hid (show wsum L3 = WC by rw [← hX3, wsum_sp, eWC])
  have k1 := fl_self (n := W1) (by omega)
  have kc := fl_self (n := WC) (by omega)
  have hc1 := ct_small hd1
  have j1 := fl_self (n := 65536 * ct t1) (by omega)
  have j0 : FloatKind.f64.format.order 0 0 = some .eq := by kernel_rfl
  have z0 := fl_0
  have fs1 := fl_add (a := W1) (b := WB) (by omega)
  have ks1 := fl_self (n := W1 + WB) (by omega)
  obtain ⟨x1, hx1⟩ : ∃ x, fl W1 = x := ⟨_, rfl⟩
  obtain ⟨xB, hxB⟩ : ∃ x, fl WB = x := ⟨_, rfl⟩
  obtain ⟨xc, hxc⟩ : ∃ x, fl WC = x := ⟨_, rfl⟩
  obtain ⟨xa, hxa⟩ : ∃ x, fl Wa = x := ⟨_, rfl⟩
  obtain ⟨xb, hxb⟩ : ∃ x, fl Wb = x := ⟨_, rfl⟩
  obtain ⟨xs, hxs⟩ : ∃ x, fl (W1 + WB) = x := ⟨_, rfl⟩
  obtain ⟨y1, hy1⟩ : ∃ x, fl (65536 * ct t1) = x := ⟨_, rfl⟩
  obtain ⟨yB, hyB⟩ : ∃ x, fl (65536 * ct t2) = x := ⟨_, rfl⟩
  obtain ⟨yc, hyc⟩ : ∃ x, fl (65536 * ct t3) = x := ⟨_, rfl⟩
  obtain ⟨ya, hya⟩ : ∃ x, fl (65536 * ct (t1.both s1)) = x := ⟨_, rfl⟩
  obtain ⟨yb, hyb⟩ : ∃ x, fl (65536 * ct (t1.both s2)) = x := ⟨_, rfl⟩
  have HM1 := Lib.hid (show fl (wd t1 65536) = x1 by rw [eW1, hx1])
  have HN1 := Lib.hid hy1
  have HMB := Lib.hid (show fl (wd t2 65536) = xB by rw [eWB, hxB])
  have HNB := Lib.hid hyB
  have HMC := Lib.hid (show fl (wd (t1.both t2) 65536) = xc by rw [ht3, eWC, hxc])
  have HNC := Lib.hid (show fl (65536 * ct (t1.both t2)) = yc by rw [ht3, hyc])
  have HMD := Lib.hid (show fl (wd (t1.both s1) 65536) = xa by rw [eWa, hxa])
  have HND := Lib.hid hya
  have HMF := Lib.hid (show fl (wd (t1.both s2) 65536) = xb by rw [eWb, hxb])
  have HNF := Lib.hid hyb
  have HMS1 := Lib.hid (show fl (wd (t1.both t1) 65536) = x1 by rw [hself, eW1, hx1])
  have HNS1 := Lib.hid (show fl (65536 * ct (t1.both t1)) = y1 by rw [hself, hy1])
  have HMO := Lib.hid (show fl (wd (t1.both .o) 65536) = x1 by rw [hone, eW1, hx1])
  have HNO := Lib.hid (show fl (65536 * ct (t1.both .o)) = y1 by rw [hone, hy1])
  have HMZ := Lib.hid (show fl (wd (T.both .z t2) 65536) = 0 by rw [hzero]; exact z0)
  have HNZ := Lib.hid (show fl (65536 * ct (T.both .z t2)) = 0 by rw [hzero]; exact z0)
  have HIC := Lib.hid hxc
  have HX3 := Lib.hid hX3
  have fsum0 : floatBits .add .f64 xa xb = some xc := by rw [← hxa, ← hxb, ← hxc]; exact fadd
  rw [hxc] at kc
  rw [hx1] at k1 fs1
  rw [hxB, hxs] at fs1
  rw [hxs] at ks1
  rw [hy1] at j1
  have fcs := run_fb (.inr rfl) fsum0
  have HT3 := Lib.hid ht3
  obtain ⟨ts, es, HSR, HDD⟩ := sumCase (hxs := hxs) n1 n2 hd1 hd2 eW1 eWB fs1 ks1
  clear htt htt2 n1 n2 d1 d2 hbd hsd hs1 hs2 hcs hself hone hzero z0 eW1 eWB eWC eWa eWb hwa hwb hL3 hX3 hx1 hxB hxc hxa hxb hxs hy1 hyB hyc hya hyb fadd fsum0 ht3 fs1 ks1
  go_enter Try.func12, Try.ntmps12
  go_upto_region 4 with (first
    | (go_at_call 15; refine Calls.mono (awake3_any _) ?_; rintro e wn ⟨rfl, hk⟩; have hb := hb.trans (hk.mono hb.size); clear hk)
    | (go_at_call 42; refine Calls.mono (made3_is _ (HB.out.below hb) HY.out hl HM.out) ?_; rintro e wn ⟨v, p, rfl, hv, hp, hkk⟩; obtain ⟨o1, q1, rfl, ho⟩ := hv.shape'; have H1 := Lib.hid hv; have HP := Lib.hid hp; have hb := hb.trans (hkk.mono hb.size); clear hv hp hkk))
  have b1 := Bx.new wn o1 q1
  have H1 := Lib.hid (H1.out.alloc (.cells #[.bool o1, .pointer q1] 31))
  have HP := Lib.hid (HP.out.alloc (.cells #[.bool o1, .pointer q1] 31))
  have hb := hb.alloc hb.size (.cells #[.bool o1, .pointer q1] 31)
  generalize wn.alloc (.cells #[.bool o1, .pointer q1] 31) = wz at *
  obtain ⟨X1, eX1⟩ : ∃ X1, wn.heap.size = X1 := ⟨_, rfl⟩
  rw [eX1] at b1 ⊢
  go_upto_region 5 with (go_at_call 42; refine Calls.mono (made3_is _ (HB2.out.below hb) HY2.out hl2 HM2.out) ?_; rintro e wn ⟨v2, p2, rfl, hv, hp, hkk⟩; obtain ⟨o2, q2, rfl, ho⟩ := hv.shape'; have H2 := Lib.hid hv; have HQ := Lib.hid hp; have hb := hb.trans (hkk.mono hb.size); have b1 := b1.below hkk; have H1 := Lib.hid (H1.out.below hkk); have HP := Lib.hid (HP.out.below hkk); clear hv hp hkk)
  have b2 := Bx.new wn o2 q2
  have b1 := b1.alloc (.cells #[.bool o2, .pointer q2] 31)
  have H1 := Lib.hid (H1.out.alloc (.cells #[.bool o2, .pointer q2] 31))
  have H2 := Lib.hid (H2.out.alloc (.cells #[.bool o2, .pointer q2] 31))
  have HP := Lib.hid (HP.out.alloc (.cells #[.bool o2, .pointer q2] 31))
  have HQ := Lib.hid (HQ.out.alloc (.cells #[.bool o2, .pointer q2] 31))
  have hb := hb.alloc hb.size (.cells #[.bool o2, .pointer q2] 31)
  generalize wn.alloc (.cells #[.bool o2, .pointer q2] 31) = wz at *
  obtain ⟨X2, eX2⟩ : ∃ X2, wn.heap.size = X2 := ⟨_, rfl⟩
  rw [eX2] at b2 ⊢
  have c10 := b1.c0
  have c11 := b1.c1
  have c20 := b2.c0
  have c21 := b2.c1
  obtain ⟨g1, _, _, rfl, _⟩ := HP.out.shape
  obtain ⟨g2, _, _, rfl, _⟩ := HQ.out.shape
  go_upto_region 6 with (go_at_call 23; refine Calls.mono (sum_is _ H1.out H2.out HSR.out) ?_; rintro e wn ⟨v, rfl, hv, hkk⟩; obtain ⟨o3, q3, rfl, ho3⟩ := hv.shape'; have H3 := Lib.hid hv; clear hv; have hb := hb.trans (hkk.mono hb.size); have b1 := b1.below hkk; have b2 := b2.below hkk; have H1 := Lib.hid (H1.out.below hkk); have H2 := Lib.hid (H2.out.below hkk); have HP := Lib.hid (HP.out.below hkk); have HQ := Lib.hid (HQ.out.below hkk); clear hkk)
  have b3 := Bx.new wn o3 q3
  have b1 := b1.alloc (.cells #[.bool o3, .pointer q3] 31)
  have b2 := b2.alloc (.cells #[.bool o3, .pointer q3] 31)
  have H1 := Lib.hid (H1.out.alloc (.cells #[.bool o3, .pointer q3] 31))
  have H2 := Lib.hid (H2.out.alloc (.cells #[.bool o3, .pointer q3] 31))
  have HP := Lib.hid (HP.out.alloc (.cells #[.bool o3, .pointer q3] 31))
  have HQ := Lib.hid (HQ.out.alloc (.cells #[.bool o3, .pointer q3] 31))
  have H3 := Lib.hid (H3.out.alloc (.cells #[.bool o3, .pointer q3] 31))
  have hb := hb.alloc hb.size (.cells #[.bool o3, .pointer q3] 31)
  generalize wn.alloc (.cells #[.bool o3, .pointer q3] 31) = wz at *
  obtain ⟨X3, eX3⟩ : ∃ X3, wn.heap.size = X3 := ⟨_, rfl⟩
  rw [eX3] at b3 ⊢
  clear c10 c11 c20 c21
  have hq := Below.refl wz.heap.size wz
  go_cut [49] (fun s49 wx => s49 = .bool false ∧ BelA wz wx)
  case first =>
    rcases HDD with ⟨rfl, HSW⟩ | rfl
    · obtain ⟨xt, yt, HD3, HMS, HNS, fs2, ks2⟩ := HSW
      have hd3 := HD3.out
      have ks := ks2.out
      have fsum := run_fb (.inr rfl) fs2.out
      clear fs2 ks2 HD3
      have hb := bdrew hb
      have hq := bdrew hq
      have b1 := b1.drew
      have b2 := b2.drew
      have b3 := b3.drew
      have H1 := Lib.hid H1.out.drew
      have H2 := Lib.hid H2.out.drew
      have H3 := Lib.hid H3.out.drew
      go_region_held3 (fun w' => w'.cell? ⟨X1, 0, none⟩ = some (.bool o1) ∧ w'.cell? ⟨X1, 1, none⟩ = some (.pointer q1) ∧ w'.cell? ⟨X2, 0, none⟩ = some (.bool o2) ∧ w'.cell? ⟨X2, 1, none⟩ = some (.pointer q2) ∧ w'.cell? ⟨X3, 0, none⟩ = some (.bool o3) ∧ w'.cell? ⟨X3, 1, none⟩ = some (.pointer q3)) (exact ⟨b1.c0, b1.c1, b2.c0, b2.c1, b3.c0, b3.c1⟩)
        (first
          | (go_at_call_of 45 (Value.agg #[Value.bool o1, Value.pointer q1]); (with_reducible refine Calls.mono (Measure_at _ H1.out hd1 HM1.out HN1.out) ?_); rintro e wn ⟨rfl, hkk⟩; have hq := hq.trans (hkk.mono hq.size); have hb := hb.trans (hkk.mono hb.size); have b1 := b1.below hkk; have b2 := b2.below hkk; have b3 := b3.below hkk; have H1 := Lib.hid (H1.out.below hkk); have H2 := Lib.hid (H2.out.below hkk); have H3 := Lib.hid (H3.out.below hkk); clear hkk)
          | (go_at_call_of 45 (Value.agg #[Value.bool o2, Value.pointer q2]); (with_reducible refine Calls.mono (Measure_at _ H2.out hd2 HMB.out HNB.out) ?_); rintro e wn ⟨rfl, hkk⟩; have hq := hq.trans (hkk.mono hq.size); have hb := hb.trans (hkk.mono hb.size); have b1 := b1.below hkk; have b2 := b2.below hkk; have b3 := b3.below hkk; have H1 := Lib.hid (H1.out.below hkk); have H2 := Lib.hid (H2.out.below hkk); have H3 := Lib.hid (H3.out.below hkk); clear hkk)
          | (go_at_call_of 45 (Value.agg #[Value.bool o3, Value.pointer q3]); (with_reducible refine Calls.mono (Measure_at _ H3.out hd3 HMS.out HNS.out) ?_); rintro e wn ⟨rfl, hkk⟩; have hq := hq.trans (hkk.mono hq.size); have hb := hb.trans (hkk.mono hb.size); have b1 := b1.below hkk; have b2 := b2.below hkk; have b3 := b3.below hkk; have H1 := Lib.hid (H1.out.below hkk); have H2 := Lib.hid (H2.out.below hkk); have H3 := Lib.hid (H3.out.below hkk); clear hkk))
      all_goals
        go_wp2_with fail
        go_meet
        exact ⟨by trivial, hq⟩
    · refine region_in (S := BelA wz) (by kernel_rfl) (by kernel_rfl) (bdrew hq) ?_
      have hne : Nonempty (InS (BelA wz)) := ⟨⟨_, bdrew hq⟩⟩
      repeat (go_big_quiet_step (fail))
      refine wpQuiet_nil ?_
      rintro _ ⟨⟨wk, hk⟩, rfl⟩
      go_wp2_with fail
      go_meet
      exact ⟨by trivial, hk⟩
  case rest =>
    obtain ⟨rfl, hkk⟩ := hcut
    unfold BelA at hkk
    have hb := hb.trans (hkk.mono hb.size)
    have b1 := b1.below hkk
    have b2 := b2.below hkk
    have H1 := Lib.hid (H1.out.below hkk)
    have H2 := Lib.hid (H2.out.below hkk)
    have HP := Lib.hid (HP.out.below hkk)
    have HQ := Lib.hid (HQ.out.below hkk)
    clear hkk HDD
    have c10 := b1.c0
    have c11 := b1.c1
    have c20 := b2.c0
    have c21 := b2.c1
    go_upto_region 9 with (first
      | (go_at_call 43; refine Calls.mono (rspans_at _ HBB.out hc3 HX3.out) ?_; rintro e wn ⟨u, rfl, hu, hkk⟩; obtain ⟨aC, cC, rfl⟩ := hu.len; have hb := hb.trans (hkk.mono hb.size); have b1 := b1.below hkk; have b2 := b2.below hkk; have H1 := Lib.hid (H1.out.below hkk); have H2 := Lib.hid (H2.out.below hkk); have HP := Lib.hid (HP.out.below hkk); have HQ := Lib.hid (HQ.out.below hkk); clear c10 c11 c20 c21; have c10 := b1.c0; have c11 := b1.c1; have c20 := b2.c0; have c21 := b2.c1; clear hkk; have HC := Lib.hid hu; clear hu)
      | (go_at_call 44; refine Calls.mono (rboth_at _ HP.out HQ.out HT3.out) ?_; rintro e wn ⟨u, rfl, hu, hkk⟩; obtain ⟨g3, _, _, rfl, _⟩ := hu.shape; have hb := hb.trans (hkk.mono hb.size); have b1 := b1.below hkk; have b2 := b2.below hkk; have H1 := Lib.hid (H1.out.below hkk); have H2 := Lib.hid (H2.out.below hkk); have HP := Lib.hid (HP.out.below hkk); have HQ := Lib.hid (HQ.out.below hkk); clear c10 c11 c20 c21; have c10 := b1.c0; have c11 := b1.c1; have c20 := b2.c0; have c21 := b2.c1; clear hkk; have HBB := Lib.hid hu; clear hu)
      | (go_at_call 48; (with_reducible refine Calls.mono (rwide_at _ HC.out HWC.out hwc hlc) ?_); rintro e wn ⟨rfl, hkk⟩; have hb := hb.trans (hkk.mono hb.size); have b1 := b1.below hkk; have b2 := b2.below hkk; have H1 := Lib.hid (H1.out.below hkk); have H2 := Lib.hid (H2.out.below hkk); clear c10 c11 c20 c21; have c10 := b1.c0; have c11 := b1.c1; have c20 := b2.c0; have c21 := b2.c1; clear hkk))
    go_upto_region 10 with (go_at_call 19; refine Calls.mono (split_is _ H2.out hd2s HSP.out) ?_; rintro e wn ⟨v, v2, rfl, hv, hv2, hkk⟩; obtain ⟨o4, q4, rfl, ho4⟩ := hv.shape'; have H4 := Lib.hid hv; clear hv; obtain ⟨o5, q5, rfl, ho5⟩ := hv2.shape'; have H5 := Lib.hid hv2; clear hv2; have hb := hb.trans (hkk.mono hb.size); have b1 := b1.below hkk; have b2 := b2.below hkk; have H1 := Lib.hid (H1.out.below hkk); have H2 := Lib.hid (H2.out.below hkk); clear hkk)
    have b4 := (Bx.new wn o4 q4).alloc (.cells #[.bool o5, .pointer q5] 31)
    have b5 := Bx.new1 wn o5 q5 (.cells #[.bool o4, .pointer q4] 31)
    have b1 := (b1.alloc (.cells #[.bool o4, .pointer q4] 31)).alloc (.cells #[.bool o5, .pointer q5] 31)
    have b2 := (b2.alloc (.cells #[.bool o4, .pointer q4] 31)).alloc (.cells #[.bool o5, .pointer q5] 31)
    have H1 := Lib.hid ((H1.out.alloc (.cells #[.bool o4, .pointer q4] 31)).alloc (.cells #[.bool o5, .pointer q5] 31))
    have H2 := Lib.hid ((H2.out.alloc (.cells #[.bool o4, .pointer q4] 31)).alloc (.cells #[.bool o5, .pointer q5] 31))
    have H4 := Lib.hid ((H4.out.alloc (.cells #[.bool o4, .pointer q4] 31)).alloc (.cells #[.bool o5, .pointer q5] 31))
    have H5 := Lib.hid ((H5.out.alloc (.cells #[.bool o4, .pointer q4] 31)).alloc (.cells #[.bool o5, .pointer q5] 31))
    have hb := (hb.alloc hb.size (.cells #[.bool o4, .pointer q4] 31)).alloc (by simp only [asz]; have := hb.size; omega) (.cells #[.bool o5, .pointer q5] 31)
    generalize (wn.alloc (.cells #[.bool o4, .pointer q4] 31)).alloc (.cells #[.bool o5, .pointer q5] 31) = wz at *
    obtain ⟨X4, eX4⟩ : ∃ X4, wn.heap.size = X4 := ⟨_, rfl⟩
    rw [eX4] at b4 b5 ⊢
    obtain ⟨X5, eX5⟩ : ∃ X5, X4 + 1 = X5 := ⟨_, rfl⟩
    rw [eX5] at b5 ⊢
    clear c10 c11 c20 c21
    have hb := bdrew hb
    have b1 := b1.drew
    have b2 := b2.drew
    have b4 := b4.drew
    have b5 := b5.drew
    have H1 := Lib.hid H1.out.drew
    have H2 := Lib.hid H2.out.drew
    have H4 := Lib.hid H4.out.drew
    have H5 := Lib.hid H5.out.drew
    go_region_held3 (fun w' => w'.cell? ⟨X1, 0, none⟩ = some (.bool o1) ∧ w'.cell? ⟨X1, 1, none⟩ = some (.pointer q1) ∧ w'.cell? ⟨X4, 0, none⟩ = some (.bool o4) ∧ w'.cell? ⟨X4, 1, none⟩ = some (.pointer q4) ∧ w'.cell? ⟨X5, 0, none⟩ = some (.bool o5) ∧ w'.cell? ⟨X5, 1, none⟩ = some (.pointer q5)) (exact ⟨b1.c0, b1.c1, b4.c0, b4.c1, b5.c0, b5.c1⟩)
      (first
        | (go_at_call 46; (with_reducible refine Calls.mono (Common_at _ hd1 hd4 H1.out H4.out HMD.out HND.out) ?_); rintro e wn ⟨rfl, hkk⟩; have hb := hb.trans (hkk.mono hb.size); have b1 := b1.below hkk; have b2 := b2.below hkk; have b4 := b4.below hkk; have b5 := b5.below hkk; have H1 := Lib.hid (H1.out.below hkk); have H2 := Lib.hid (H2.out.below hkk); have H4 := Lib.hid (H4.out.below hkk); have H5 := Lib.hid (H5.out.below hkk); clear hkk)
        | (go_at_call 46; (with_reducible refine Calls.mono (Common_at _ hd1 hd5 H1.out H5.out HMF.out HNF.out) ?_); rintro e wn ⟨rfl, hkk⟩; have hb := hb.trans (hkk.mono hb.size); have b1 := b1.below hkk; have b2 := b2.below hkk; have b4 := b4.below hkk; have b5 := b5.below hkk; have H1 := Lib.hid (H1.out.below hkk); have H2 := Lib.hid (H2.out.below hkk); have H4 := Lib.hid (H4.out.below hkk); have H5 := Lib.hid (H5.out.below hkk); clear hkk))
    go_upto_region 11 with (fail)
    rename World => w9
    have HFZ := Lib.hid (show ∀ wx, IDV wx .z (.agg #[.bool false, .pointer none]) from fun _ => rfl)
    have HFO := Lib.hid (show ∀ wx, IDV wx .o (.agg #[.bool true, .pointer none]) from fun _ => rfl)
    have hin : BelA w9 w9.drew := bdrew (Below.refl _ _)
    have hc10 : ∀ k : InS (BelA w9), k.w.cell? ⟨X1, 0, none⟩ = some (.bool o1) := fun k => (b1.below k.h).c0
    have hc11 : ∀ k : InS (BelA w9), k.w.cell? ⟨X1, 1, none⟩ = some (.pointer q1) := fun k => (b1.below k.h).c1
    have hc20 : ∀ k : InS (BelA w9), k.w.cell? ⟨X2, 0, none⟩ = some (.bool o2) := fun k => (b2.below k.h).c0
    have hc21 : ∀ k : InS (BelA w9), k.w.cell? ⟨X2, 1, none⟩ = some (.pointer q2) := fun k => (b2.below k.h).c1
    refine region_in (S := BelA w9) (by kernel_rfl) (by kernel_rfl) hin ?_
    have hne : Nonempty (InS (BelA w9)) := ⟨⟨_, hin⟩⟩
    repeat (go_big_quiet_step ((first
      | (go_at_call_of 46 (Value.agg #[Value.bool false, Value.pointer none]); rename_i kk; have hq1 : Below w9.heap.size w9 kk.w := kk.h; (with_reducible refine Calls.mono (Common_at _ (Nat.zero_le _) hd2 (HFZ.out _) (H2.out.below hq1) HMZ.out HNZ.out) ?_); rintro e wn ⟨rfl, hkk⟩; exact ⟨rfl, ⟨wn, hq1.trans (hkk.mono hq1.size)⟩, rfl⟩)
      | (go_at_call 46; rename_i kk; have hq1 : Below w9.heap.size w9 kk.w := kk.h; (with_reducible refine Calls.mono (Common_at _ hd1 hd2 (H1.out.below hq1) (H2.out.below hq1) HMC.out HNC.out) ?_); rintro e wn ⟨rfl, hkk⟩; exact ⟨rfl, ⟨wn, hq1.trans (hkk.mono hq1.size)⟩, rfl⟩)
      | (go_at_call 47; rename_i kk; have hq1 : Below w9.heap.size w9 kk.w := kk.h; (with_reducible refine Calls.mono (is_at _ hwc HIC.out) ?_); rintro e wn ⟨rfl, hkk⟩; exact ⟨rfl, ⟨wn, hq1.trans (hkk.mono hq1.size)⟩, rfl⟩)
      | (go_at_call 46; rename_i kk; have hq1 : Below w9.heap.size w9 kk.w := kk.h; (with_reducible refine Calls.mono (Common_at _ hd1 hd1 (H1.out.below hq1) (H1.out.below hq1) HMS1.out HNS1.out) ?_); rintro e wn ⟨rfl, hkk⟩; exact ⟨rfl, ⟨wn, hq1.trans (hkk.mono hq1.size)⟩, rfl⟩)
      | (go_at_call 45; rename_i kk; have hq1 : Below w9.heap.size w9 kk.w := kk.h; (with_reducible refine Calls.mono (Measure_at _ (H1.out.below hq1) hd1 HM1.out HN1.out) ?_); rintro e wn ⟨rfl, hkk⟩; exact ⟨rfl, ⟨wn, hq1.trans (hkk.mono hq1.size)⟩, rfl⟩)
      | (go_at_call 18; rename_i kk; have hq1 : Below w9.heap.size w9 kk.w := kk.h; (with_reducible refine Calls.mono (one_fix _) ?_); rintro e wn ⟨rfl, hkk⟩; exact ⟨rfl, ⟨wn, hq1.trans (hkk.mono hq1.size)⟩, rfl⟩)
      | (go_at_call 21; rename_i kk; have hq1 : Below w9.heap.size w9 kk.w := kk.h; (with_reducible refine Calls.mono (zero_fix _) ?_); rintro e wn ⟨rfl, hkk⟩; exact ⟨rfl, ⟨wn, hq1.trans (hkk.mono hq1.size)⟩, rfl⟩)
      | (go_at_call 46; rename_i kk; have hq1 : Below w9.heap.size w9 kk.w := kk.h; (with_reducible refine Calls.mono (Common_at _ hd1 (Nat.zero_le _) (H1.out.below hq1) (HFO.out _) HMO.out HNO.out) ?_); rintro e wn ⟨rfl, hkk⟩; exact ⟨rfl, ⟨wn, hq1.trans (hkk.mono hq1.size)⟩, rfl⟩))))
    refine wpQuiet_nil ?_
    rintro _ ⟨⟨wk, hk⟩, rfl⟩
    unfold BelA at hk
    go_wp2_with fail
    go_ret
    exact ⟨by trivial, hb.trans (hk.mono hb.size)⟩
end Go.Proofs.Ytigkjmfkpmehlaa
