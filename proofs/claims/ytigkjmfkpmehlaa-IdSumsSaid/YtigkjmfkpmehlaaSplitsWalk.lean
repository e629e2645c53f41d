/- The walk of IdSplits. (Printed by wip/ids/splitw.py.) -/
import Derived.Test.YtigkjmfkpmehlaaRSplit
namespace Go.Proofs.Ytigkjmfkpmehlaa
open Go.RowKit

theorem split_disj {t : T} (h : t.norm = true) : t.split.1.disj t.split.2 = true :=
  (disj_iff (split_norm h).1 (split_norm h).2).2 (fun x => (split_at t x).2)
theorem split_sum {t : T} (h : t.norm = true) : t.split.1.sum t.split.2 = t :=
  at_ext (sum_norm (split_norm h).1 (split_norm h).2) h (fun x => by rw [sum_at]; exact (split_at t x).1)

set_option maxRecDepth 100000 in
set_option maxHeartbeats 3200000 in
theorem splits_any {ys : List Int} {v : Value} (w : World) (h : BS w v ys) (hy : ∀ x ∈ ys, 0 ≤ x ∧ x ≤ 255) (hl : ys.length ≤ 9223372036854775807) : Calls Try.prog 9 #[v] w fun e w' => e = .returned (.bool true) ∧ Below w.heap.size w w' := by
  have HB := Lib.hid h
  have HY := Lib.hid hy
  clear h hy
  have hb := Below.refl w.heap.size w
  have hnd := mkT_norm ys
  obtain ⟨t, htt⟩ : ∃ t, mkT ys = t := ⟨_, rfl⟩
  rw [htt] at hnd
  have HM := Lib.hid htt
  obtain ⟨hn, hd7⟩ := hnd
  have hsd := T.split_depth t
  have hd1 : t.depth ≤ 100000 := by omega
  have hda : t.split.1.depth ≤ 20 := by omega
  have hdb : t.split.2.depth ≤ 20 := by omega
  have HSP := Lib.hid (show splitR t = (t.split.1, t.split.2, 0) by unfold splitR; rw [if_pos (by omega)])
  have HDJ := Lib.hid (split_disj hn)
  have HSU := Lib.hid (show sumR t.split.1 t.split.2 = (t, 0) by unfold sumR; rw [if_pos (split_disj hn), split_sum hn])
  have HSA := Lib.hid (T.same_refl t)
  have HNZ := Lib.hid (fun h => split_nz hn (t := t) h)
  clear htt hn hd7 hsd
  cases hz : t.isZ with
  | true =>
    have HZ := Lib.hid hz
    clear hz
    go_enter Try.func9, Try.ntmps9
    go_upto_region 4 with (first
      | (go_at_call 17; refine Calls.mono (awake_any _) ?_; rintro e wn ⟨rfl, hk⟩; have hb := hb.trans (hk.mono hb.size); clear hk)
      | (go_at_call 31; refine Calls.mono (made_is _ (HB.out.below hb) HY.out hl HM.out) ?_; rintro e wn ⟨v, p, rfl, hv, hp, hkk⟩; obtain ⟨o1, q1, rfl, ho⟩ := hv.shape'; have H1 := Lib.hid hv; have HP := Lib.hid hp; have hb := hb.trans (hkk.mono hb.size); clear hv hp hkk))
    have b1 := Bx.new wn o1 q1
    have H1 := Lib.hid (H1.out.alloc (.cells #[.bool o1, .pointer q1] 31))
    have HP := Lib.hid (HP.out.alloc (.cells #[.bool o1, .pointer q1] 31))
    have hb := hb.alloc hb.size (.cells #[.bool o1, .pointer q1] 31)
    generalize wn.alloc (.cells #[.bool o1, .pointer q1] 31) = wz at *
    obtain ⟨X1, eX1⟩ : ∃ X1, wn.heap.size = X1 := ⟨_, rfl⟩
    rw [eX1] at b1 ⊢
    have c10 := b1.c0
    have c11 := b1.c1
    go_upto_region 5 with (go_at_call 19; refine Calls.mono (split_is _ H1.out hd1 HSP.out) ?_; rintro e wn ⟨v, v2, rfl, hv, hv2, hkk⟩; obtain ⟨o2, q2, rfl, ho2⟩ := hv.shape'; have H2 := Lib.hid hv; clear hv; obtain ⟨o3, q3, rfl, ho3⟩ := hv2.shape'; have H3 := Lib.hid hv2; clear hv2; have hb := hb.trans (hkk.mono hb.size); have b1 := b1.below hkk; have H1 := Lib.hid (H1.out.below hkk); have HP := Lib.hid (HP.out.below hkk); clear hkk)
    have b2 := (Bx.new wn o2 q2).alloc (.cells #[.bool o3, .pointer q3] 31)
    have b3 := Bx.new1 wn o3 q3 (.cells #[.bool o2, .pointer q2] 31)
    have b1 := (b1.alloc (.cells #[.bool o2, .pointer q2] 31)).alloc (.cells #[.bool o3, .pointer q3] 31)
    have H1 := Lib.hid ((H1.out.alloc (.cells #[.bool o2, .pointer q2] 31)).alloc (.cells #[.bool o3, .pointer q3] 31))
    have H2 := Lib.hid ((H2.out.alloc (.cells #[.bool o2, .pointer q2] 31)).alloc (.cells #[.bool o3, .pointer q3] 31))
    have H3 := Lib.hid ((H3.out.alloc (.cells #[.bool o2, .pointer q2] 31)).alloc (.cells #[.bool o3, .pointer q3] 31))
    have HP := Lib.hid ((HP.out.alloc (.cells #[.bool o2, .pointer q2] 31)).alloc (.cells #[.bool o3, .pointer q3] 31))
    have hb := (hb.alloc hb.size (.cells #[.bool o2, .pointer q2] 31)).alloc (by simp only [asz]; have := hb.size; omega) (.cells #[.bool o3, .pointer q3] 31)
    generalize (wn.alloc (.cells #[.bool o2, .pointer q2] 31)).alloc (.cells #[.bool o3, .pointer q3] 31) = wz at *
    obtain ⟨X2, eX2⟩ : ∃ X2, wn.heap.size = X2 := ⟨_, rfl⟩
    rw [eX2] at b2 b3 ⊢
    obtain ⟨X3, eX3⟩ : ∃ X3, X2 + 1 = X3 := ⟨_, rfl⟩
    rw [eX3] at b3 ⊢
    have c10 := b1.c0
    have c11 := b1.c1
    have c20 := b2.c0
    have c21 := b2.c1
    have c30 := b3.c0
    have c31 := b3.c1
    go_upto_region 6 with (go_at_call 37; refine Calls.mono (rsplit_any _ _ HP.out) ?_; rintro e wn ⟨y1, y2, rfl, hy1, hy2, hkk⟩; have HA := Lib.hid hy1; have HBq := Lib.hid hy2; clear hy1 hy2; have hb := hb.trans (hkk.mono hb.size); have b1 := b1.below hkk; have b2 := b2.below hkk; have b3 := b3.below hkk; have H1 := Lib.hid (H1.out.below hkk); have H2 := Lib.hid (H2.out.below hkk); have H3 := Lib.hid (H3.out.below hkk); have c10 := b1.c0; have c11 := b1.c1; have c20 := b2.c0; have c21 := b2.c1; have c30 := b3.c0; have c31 := b3.c1; clear hkk)
    go_upto_region 7 with (go_at_call 23; refine Calls.mono (sum_is _ H2.out H3.out HSU.out) ?_; rintro e wn ⟨v, rfl, hv, hkk⟩; obtain ⟨o4, q4, rfl, ho4⟩ := hv.shape'; have H4 := Lib.hid hv; clear hv; have hb := hb.trans (hkk.mono hb.size); have b1 := b1.below hkk; have b2 := b2.below hkk; have b3 := b3.below hkk; have H1 := Lib.hid (H1.out.below hkk); have H2 := Lib.hid (H2.out.below hkk); have H3 := Lib.hid (H3.out.below hkk); have HA := Lib.hid (HA.out.below hkk); have HBq := Lib.hid (HBq.out.below hkk); clear hkk)
    have b4 := Bx.new wn o4 q4
    have b1 := b1.alloc (.cells #[.bool o4, .pointer q4] 31)
    have b2 := b2.alloc (.cells #[.bool o4, .pointer q4] 31)
    have b3 := b3.alloc (.cells #[.bool o4, .pointer q4] 31)
    have H1 := Lib.hid (H1.out.alloc (.cells #[.bool o4, .pointer q4] 31))
    have H2 := Lib.hid (H2.out.alloc (.cells #[.bool o4, .pointer q4] 31))
    have H3 := Lib.hid (H3.out.alloc (.cells #[.bool o4, .pointer q4] 31))
    have H4 := Lib.hid (H4.out.alloc (.cells #[.bool o4, .pointer q4] 31))
    have HA := Lib.hid (HA.out.alloc (.cells #[.bool o4, .pointer q4] 31))
    have HBq := Lib.hid (HBq.out.alloc (.cells #[.bool o4, .pointer q4] 31))
    have hb := hb.alloc hb.size (.cells #[.bool o4, .pointer q4] 31)
    generalize wn.alloc (.cells #[.bool o4, .pointer q4] 31) = wz at *
    obtain ⟨X4, eX4⟩ : ∃ X4, wn.heap.size = X4 := ⟨_, rfl⟩
    rw [eX4] at b4 ⊢
    have c10 := b1.c0
    have c11 := b1.c1
    have c20 := b2.c0
    have c21 := b2.c1
    have c30 := b3.c0
    have c31 := b3.c1
    have c40 := b4.c0
    have c41 := b4.c1
    go_wp2_with (first
      | (go_at_call_of 29 (Value.agg #[Value.bool o2, Value.pointer q2]); with_reducible refine Calls.mono (like_any _ hda H2.out HA.out) ?_; rintro e wn ⟨rfl, hkk⟩; have hb := hb.trans (hkk.mono hb.size); have b1 := b1.below hkk; have b2 := b2.below hkk; have b3 := b3.below hkk; have b4 := b4.below hkk; have H1 := Lib.hid (H1.out.below hkk); have H2 := Lib.hid (H2.out.below hkk); have H3 := Lib.hid (H3.out.below hkk); have H4 := Lib.hid (H4.out.below hkk); have HA := Lib.hid (HA.out.below hkk); have HBq := Lib.hid (HBq.out.below hkk); have c10 := b1.c0; have c11 := b1.c1; have c20 := b2.c0; have c21 := b2.c1; have c30 := b3.c0; have c31 := b3.c1; have c40 := b4.c0; have c41 := b4.c1; clear hkk)
      | (go_at_call_of 29 (Value.agg #[Value.bool o3, Value.pointer q3]); with_reducible refine Calls.mono (like_any _ hdb H3.out HBq.out) ?_; rintro e wn ⟨rfl, hkk⟩; have hb := hb.trans (hkk.mono hb.size); have b1 := b1.below hkk; have b2 := b2.below hkk; have b3 := b3.below hkk; have b4 := b4.below hkk; have H1 := Lib.hid (H1.out.below hkk); have H2 := Lib.hid (H2.out.below hkk); have H3 := Lib.hid (H3.out.below hkk); have H4 := Lib.hid (H4.out.below hkk); have HA := Lib.hid (HA.out.below hkk); have HBq := Lib.hid (HBq.out.below hkk); have c10 := b1.c0; have c11 := b1.c1; have c20 := b2.c0; have c21 := b2.c1; have c30 := b3.c0; have c31 := b3.c1; have c40 := b4.c0; have c41 := b4.c1; clear hkk)
      | (go_at_call 22; with_reducible refine Calls.mono (disj_is _ H2.out H3.out HDJ.out) ?_; rintro e wn ⟨rfl, hkk⟩; have hb := hb.trans (hkk.mono hb.size); have b1 := b1.below hkk; have b2 := b2.below hkk; have b3 := b3.below hkk; have b4 := b4.below hkk; have H1 := Lib.hid (H1.out.below hkk); have H2 := Lib.hid (H2.out.below hkk); have H3 := Lib.hid (H3.out.below hkk); have H4 := Lib.hid (H4.out.below hkk); have HA := Lib.hid (HA.out.below hkk); have HBq := Lib.hid (HBq.out.below hkk); have c10 := b1.c0; have c11 := b1.c1; have c20 := b2.c0; have c21 := b2.c1; have c30 := b3.c0; have c31 := b3.c1; have c40 := b4.c0; have c41 := b4.c1; clear hkk)
      | (go_at_call 35; with_reducible refine Calls.mono (same_is _ H4.out H1.out HSA.out) ?_; rintro e wn ⟨rfl, hkk⟩; have hb := hb.trans (hkk.mono hb.size); have b1 := b1.below hkk; have b2 := b2.below hkk; have b3 := b3.below hkk; have b4 := b4.below hkk; have H1 := Lib.hid (H1.out.below hkk); have H2 := Lib.hid (H2.out.below hkk); have H3 := Lib.hid (H3.out.below hkk); have H4 := Lib.hid (H4.out.below hkk); have HA := Lib.hid (HA.out.below hkk); have HBq := Lib.hid (HBq.out.below hkk); have c10 := b1.c0; have c11 := b1.c1; have c20 := b2.c0; have c21 := b2.c1; have c30 := b3.c0; have c31 := b3.c1; have c40 := b4.c0; have c41 := b4.c1; clear hkk)
      | (go_at_call_of 24 (Value.agg #[Value.bool o1, Value.pointer q1]); with_reducible refine Calls.mono (isZero_is _ H1.out HZ.out) ?_; rintro e wn ⟨rfl, hkk⟩; have hb := hb.trans (hkk.mono hb.size); have b1 := b1.below hkk; have b2 := b2.below hkk; have b3 := b3.below hkk; have b4 := b4.below hkk; have H1 := Lib.hid (H1.out.below hkk); have H2 := Lib.hid (H2.out.below hkk); have H3 := Lib.hid (H3.out.below hkk); have H4 := Lib.hid (H4.out.below hkk); have HA := Lib.hid (HA.out.below hkk); have HBq := Lib.hid (HBq.out.below hkk); have c10 := b1.c0; have c11 := b1.c1; have c20 := b2.c0; have c21 := b2.c1; have c30 := b3.c0; have c31 := b3.c1; have c40 := b4.c0; have c41 := b4.c1; clear hkk))
    go_ret
    exact ⟨by trivial, hb⟩
  | false =>
    have hne : t ≠ .z := fun hh => by rw [hh] at hz; simp [T.isZ] at hz
    have HZ := Lib.hid hz
    have HZA := Lib.hid (show t.split.1.isZ = false by cases hh : t.split.1.isZ with | false => rfl | true => exact absurd (isZ_iff.1 hh) (HNZ.out hne).1)
    have HZB := Lib.hid (show t.split.2.isZ = false by cases hh : t.split.2.isZ with | false => rfl | true => exact absurd (isZ_iff.1 hh) (HNZ.out hne).2)
    clear hz hne
    go_enter Try.func9, Try.ntmps9
    go_upto_region 4 with (first
      | (go_at_call 17; refine Calls.mono (awake_any _) ?_; rintro e wn ⟨rfl, hk⟩; have hb := hb.trans (hk.mono hb.size); clear hk)
      | (go_at_call 31; refine Calls.mono (made_is _ (HB.out.below hb) HY.out hl HM.out) ?_; rintro e wn ⟨v, p, rfl, hv, hp, hkk⟩; obtain ⟨o1, q1, rfl, ho⟩ := hv.shape'; have H1 := Lib.hid hv; have HP := Lib.hid hp; have hb := hb.trans (hkk.mono hb.size); clear hv hp hkk))
    have b1 := Bx.new wn o1 q1
    have H1 := Lib.hid (H1.out.alloc (.cells #[.bool o1, .pointer q1] 31))
    have HP := Lib.hid (HP.out.alloc (.cells #[.bool o1, .pointer q1] 31))
    have hb := hb.alloc hb.size (.cells #[.bool o1, .pointer q1] 31)
    generalize wn.alloc (.cells #[.bool o1, .pointer q1] 31) = wz at *
    obtain ⟨X1, eX1⟩ : ∃ X1, wn.heap.size = X1 := ⟨_, rfl⟩
    rw [eX1] at b1 ⊢
    have c10 := b1.c0
    have c11 := b1.c1
    go_upto_region 5 with (go_at_call 19; refine Calls.mono (split_is _ H1.out hd1 HSP.out) ?_; rintro e wn ⟨v, v2, rfl, hv, hv2, hkk⟩; obtain ⟨o2, q2, rfl, ho2⟩ := hv.shape'; have H2 := Lib.hid hv; clear hv; obtain ⟨o3, q3, rfl, ho3⟩ := hv2.shape'; have H3 := Lib.hid hv2; clear hv2; have hb := hb.trans (hkk.mono hb.size); have b1 := b1.below hkk; have H1 := Lib.hid (H1.out.below hkk); have HP := Lib.hid (HP.out.below hkk); clear hkk)
    have b2 := (Bx.new wn o2 q2).alloc (.cells #[.bool o3, .pointer q3] 31)
    have b3 := Bx.new1 wn o3 q3 (.cells #[.bool o2, .pointer q2] 31)
    have b1 := (b1.alloc (.cells #[.bool o2, .pointer q2] 31)).alloc (.cells #[.bool o3, .pointer q3] 31)
    have H1 := Lib.hid ((H1.out.alloc (.cells #[.bool o2, .pointer q2] 31)).alloc (.cells #[.bool o3, .pointer q3] 31))
    have H2 := Lib.hid ((H2.out.alloc (.cells #[.bool o2, .pointer q2] 31)).alloc (.cells #[.bool o3, .pointer q3] 31))
    have H3 := Lib.hid ((H3.out.alloc (.cells #[.bool o2, .pointer q2] 31)).alloc (.cells #[.bool o3, .pointer q3] 31))
    have HP := Lib.hid ((HP.out.alloc (.cells #[.bool o2, .pointer q2] 31)).alloc (.cells #[.bool o3, .pointer q3] 31))
    have hb := (hb.alloc hb.size (.cells #[.bool o2, .pointer q2] 31)).alloc (by simp only [asz]; have := hb.size; omega) (.cells #[.bool o3, .pointer q3] 31)
    generalize (wn.alloc (.cells #[.bool o2, .pointer q2] 31)).alloc (.cells #[.bool o3, .pointer q3] 31) = wz at *
    obtain ⟨X2, eX2⟩ : ∃ X2, wn.heap.size = X2 := ⟨_, rfl⟩
    rw [eX2] at b2 b3 ⊢
    obtain ⟨X3, eX3⟩ : ∃ X3, X2 + 1 = X3 := ⟨_, rfl⟩
    rw [eX3] at b3 ⊢
    have c10 := b1.c0
    have c11 := b1.c1
    have c20 := b2.c0
    have c21 := b2.c1
    have c30 := b3.c0
    have c31 := b3.c1
    go_upto_region 6 with (go_at_call 37; refine Calls.mono (rsplit_any _ _ HP.out) ?_; rintro e wn ⟨y1, y2, rfl, hy1, hy2, hkk⟩; have HA := Lib.hid hy1; have HBq := Lib.hid hy2; clear hy1 hy2; have hb := hb.trans (hkk.mono hb.size); have b1 := b1.below hkk; have b2 := b2.below hkk; have b3 := b3.below hkk; have H1 := Lib.hid (H1.out.below hkk); have H2 := Lib.hid (H2.out.below hkk); have H3 := Lib.hid (H3.out.below hkk); have c10 := b1.c0; have c11 := b1.c1; have c20 := b2.c0; have c21 := b2.c1; have c30 := b3.c0; have c31 := b3.c1; clear hkk)
    go_upto_region 7 with (go_at_call 23; refine Calls.mono (sum_is _ H2.out H3.out HSU.out) ?_; rintro e wn ⟨v, rfl, hv, hkk⟩; obtain ⟨o4, q4, rfl, ho4⟩ := hv.shape'; have H4 := Lib.hid hv; clear hv; have hb := hb.trans (hkk.mono hb.size); have b1 := b1.below hkk; have b2 := b2.below hkk; have b3 := b3.below hkk; have H1 := Lib.hid (H1.out.below hkk); have H2 := Lib.hid (H2.out.below hkk); have H3 := Lib.hid (H3.out.below hkk); have HA := Lib.hid (HA.out.below hkk); have HBq := Lib.hid (HBq.out.below hkk); clear hkk)
    have b4 := Bx.new wn o4 q4
    have b1 := b1.alloc (.cells #[.bool o4, .pointer q4] 31)
    have b2 := b2.alloc (.cells #[.bool o4, .pointer q4] 31)
    have b3 := b3.alloc (.cells #[.bool o4, .pointer q4] 31)
    have H1 := Lib.hid (H1.out.alloc (.cells #[.bool o4, .pointer q4] 31))
    have H2 := Lib.hid (H2.out.alloc (.cells #[.bool o4, .pointer q4] 31))
    have H3 := Lib.hid (H3.out.alloc (.cells #[.bool o4, .pointer q4] 31))
    have H4 := Lib.hid (H4.out.alloc (.cells #[.bool o4, .pointer q4] 31))
    have HA := Lib.hid (HA.out.alloc (.cells #[.bool o4, .pointer q4] 31))
    have HBq := Lib.hid (HBq.out.alloc (.cells #[.bool o4, .pointer q4] 31))
    have hb := hb.alloc hb.size (.cells #[.bool o4, .pointer q4] 31)
    generalize wn.alloc (.cells #[.bool o4, .pointer q4] 31) = wz at *
    obtain ⟨X4, eX4⟩ : ∃ X4, wn.heap.size = X4 := ⟨_, rfl⟩
    rw [eX4] at b4 ⊢
    have c10 := b1.c0
    have c11 := b1.c1
    have c20 := b2.c0
    have c21 := b2.c1
    have c30 := b3.c0
    have c31 := b3.c1
    have c40 := b4.c0
    have c41 := b4.c1
    go_wp2_with (first
      | (go_at_call_of 29 (Value.agg #[Value.bool o2, Value.pointer q2]); with_reducible refine Calls.mono (like_any _ hda H2.out HA.out) ?_; rintro e wn ⟨rfl, hkk⟩; have hb := hb.trans (hkk.mono hb.size); have b1 := b1.below hkk; have b2 := b2.below hkk; have b3 := b3.below hkk; have b4 := b4.below hkk; have H1 := Lib.hid (H1.out.below hkk); have H2 := Lib.hid (H2.out.below hkk); have H3 := Lib.hid (H3.out.below hkk); have H4 := Lib.hid (H4.out.below hkk); have HA := Lib.hid (HA.out.below hkk); have HBq := Lib.hid (HBq.out.below hkk); have c10 := b1.c0; have c11 := b1.c1; have c20 := b2.c0; have c21 := b2.c1; have c30 := b3.c0; have c31 := b3.c1; have c40 := b4.c0; have c41 := b4.c1; clear hkk)
      | (go_at_call_of 29 (Value.agg #[Value.bool o3, Value.pointer q3]); with_reducible refine Calls.mono (like_any _ hdb H3.out HBq.out) ?_; rintro e wn ⟨rfl, hkk⟩; have hb := hb.trans (hkk.mono hb.size); have b1 := b1.below hkk; have b2 := b2.below hkk; have b3 := b3.below hkk; have b4 := b4.below hkk; have H1 := Lib.hid (H1.out.below hkk); have H2 := Lib.hid (H2.out.below hkk); have H3 := Lib.hid (H3.out.below hkk); have H4 := Lib.hid (H4.out.below hkk); have HA := Lib.hid (HA.out.below hkk); have HBq := Lib.hid (HBq.out.below hkk); have c10 := b1.c0; have c11 := b1.c1; have c20 := b2.c0; have c21 := b2.c1; have c30 := b3.c0; have c31 := b3.c1; have c40 := b4.c0; have c41 := b4.c1; clear hkk)
      | (go_at_call 22; with_reducible refine Calls.mono (disj_is _ H2.out H3.out HDJ.out) ?_; rintro e wn ⟨rfl, hkk⟩; have hb := hb.trans (hkk.mono hb.size); have b1 := b1.below hkk; have b2 := b2.below hkk; have b3 := b3.below hkk; have b4 := b4.below hkk; have H1 := Lib.hid (H1.out.below hkk); have H2 := Lib.hid (H2.out.below hkk); have H3 := Lib.hid (H3.out.below hkk); have H4 := Lib.hid (H4.out.below hkk); have HA := Lib.hid (HA.out.below hkk); have HBq := Lib.hid (HBq.out.below hkk); have c10 := b1.c0; have c11 := b1.c1; have c20 := b2.c0; have c21 := b2.c1; have c30 := b3.c0; have c31 := b3.c1; have c40 := b4.c0; have c41 := b4.c1; clear hkk)
      | (go_at_call 35; with_reducible refine Calls.mono (same_is _ H4.out H1.out HSA.out) ?_; rintro e wn ⟨rfl, hkk⟩; have hb := hb.trans (hkk.mono hb.size); have b1 := b1.below hkk; have b2 := b2.below hkk; have b3 := b3.below hkk; have b4 := b4.below hkk; have H1 := Lib.hid (H1.out.below hkk); have H2 := Lib.hid (H2.out.below hkk); have H3 := Lib.hid (H3.out.below hkk); have H4 := Lib.hid (H4.out.below hkk); have HA := Lib.hid (HA.out.below hkk); have HBq := Lib.hid (HBq.out.below hkk); have c10 := b1.c0; have c11 := b1.c1; have c20 := b2.c0; have c21 := b2.c1; have c30 := b3.c0; have c31 := b3.c1; have c40 := b4.c0; have c41 := b4.c1; clear hkk)
      | (go_at_call_of 24 (Value.agg #[Value.bool o1, Value.pointer q1]); with_reducible refine Calls.mono (isZero_is _ H1.out HZ.out) ?_; rintro e wn ⟨rfl, hkk⟩; have hb := hb.trans (hkk.mono hb.size); have b1 := b1.below hkk; have b2 := b2.below hkk; have b3 := b3.below hkk; have b4 := b4.below hkk; have H1 := Lib.hid (H1.out.below hkk); have H2 := Lib.hid (H2.out.below hkk); have H3 := Lib.hid (H3.out.below hkk); have H4 := Lib.hid (H4.out.below hkk); have HA := Lib.hid (HA.out.below hkk); have HBq := Lib.hid (HBq.out.below hkk); have c10 := b1.c0; have c11 := b1.c1; have c20 := b2.c0; have c21 := b2.c1; have c30 := b3.c0; have c31 := b3.c1; have c40 := b4.c0; have c41 := b4.c1; clear hkk)
      | (go_at_call_of 24 (Value.agg #[Value.bool o2, Value.pointer q2]); with_reducible refine Calls.mono (isZero_is _ H2.out HZA.out) ?_; rintro e wn ⟨rfl, hkk⟩; have hb := hb.trans (hkk.mono hb.size); have b1 := b1.below hkk; have b2 := b2.below hkk; have b3 := b3.below hkk; have b4 := b4.below hkk; have H1 := Lib.hid (H1.out.below hkk); have H2 := Lib.hid (H2.out.below hkk); have H3 := Lib.hid (H3.out.below hkk); have H4 := Lib.hid (H4.out.below hkk); have HA := Lib.hid (HA.out.below hkk); have HBq := Lib.hid (HBq.out.below hkk); have c10 := b1.c0; have c11 := b1.c1; have c20 := b2.c0; have c21 := b2.c1; have c30 := b3.c0; have c31 := b3.c1; have c40 := b4.c0; have c41 := b4.c1; clear hkk)
      | (go_at_call_of 24 (Value.agg #[Value.bool o3, Value.pointer q3]); with_reducible refine Calls.mono (isZero_is _ H3.out HZB.out) ?_; rintro e wn ⟨rfl, hkk⟩; have hb := hb.trans (hkk.mono hb.size); have b1 := b1.below hkk; have b2 := b2.below hkk; have b3 := b3.below hkk; have b4 := b4.below hkk; have H1 := Lib.hid (H1.out.below hkk); have H2 := Lib.hid (H2.out.below hkk); have H3 := Lib.hid (H3.out.below hkk); have H4 := Lib.hid (H4.out.below hkk); have HA := Lib.hid (HA.out.below hkk); have HBq := Lib.hid (HBq.out.below hkk); have c10 := b1.c0; have c11 := b1.c1; have c20 := b2.c0; have c21 := b2.c1; have c30 := b3.c0; have c31 := b3.c1; have c40 := b4.c0; have c41 := b4.c1; clear hkk))
    go_ret
    exact ⟨by trivial, hb⟩
end Go.Proofs.Ytigkjmfkpmehlaa
