/- The walk of IdSums. (Printed by wip/ids/sumsw.py.) -/
import Derived.Test.YtigkjmfkpmehlaaRSums
namespace Go.Proofs.Ytigkjmfkpmehlaa
open Go.RowKit

theorem rdisj_is {s t : T} {u v : Value} {D : Bool} (w : World) (ns : s.norm = true) (nt : t.norm = true) (ds : s.depth ≤ 20) (dt : t.depth ≤ 20) (hs : RV w s u) (ht : RV w t v) (hD : s.disj t = D) : Calls Try.prog 38 #[u, v] w fun e w' => e = .returned (.bool D) ∧ Below w.heap.size w w' := by
  subst hD
  exact rdisj_any w ns nt ds dt hs ht
theorem rcov_is {s t : T} {u v : Value} {D : Bool} (w : World) (ns : s.norm = true) (nt : t.norm = true) (ds : s.depth ≤ 20) (dt : t.depth ≤ 20) (hs : RV w s u) (ht : RV w t v) (hD : s.cov t = D) : Calls Try.prog 39 #[u, v] w fun e w' => e = .returned (.bool D) ∧ Below w.heap.size w w' := by
  subst hD
  exact rcov_any w ns nt ds dt hs ht
theorem rtext_is {t : T} {v : Value} {s : ByteArray} (w : World) (h : RV w t v) (hs : t.text = s) (hz : t.text.size ≤ 9223372036854775807) : Calls Try.prog 40 #[v] w fun e w' => e = .returned (.string s) ∧ Below w.heap.size w w' := by
  subst hs
  exact rtext_any w hz h
theorem text_small {t : T} (h : t.depth ≤ 20) : t.text.size ≤ 9223372036854775807 := by
  have h1 := T.text_size t
  have h2 : 2 ^ t.depth ≤ 2 ^ 20 := Nat.pow_le_pow_right (by omega) h
  omega

set_option maxRecDepth 100000 in
set_option maxHeartbeats 6400000 in
theorem sums_any {ys zs : List Int} {v u : Value} (w : World) (h : BS w v ys) (hy : ∀ x ∈ ys, 0 ≤ x ∧ x ≤ 255) (hl : ys.length ≤ 9223372036854775807) (k : BS w u zs) (ky : ∀ x ∈ zs, 0 ≤ x ∧ x ≤ 255) (hl2 : zs.length ≤ 9223372036854775807) : Calls Try.prog 10 #[v, u] w fun e w' => e = .returned (.bool true) ∧ Below w.heap.size w w' := by
  have HB := Lib.hid h
  have HY := Lib.hid hy
  have HB2 := Lib.hid k
  have HY2 := Lib.hid ky
  clear h hy k ky
  have hb := Below.refl w.heap.size w
  have hnd := mkT_norm ys
  have hnd2 := mkT_norm zs
  obtain ⟨t1, htt⟩ : ∃ t, mkT ys = t := ⟨_, rfl⟩
  obtain ⟨t2, htt2⟩ : ∃ t, mkT zs = t := ⟨_, rfl⟩
  rw [htt] at hnd
  rw [htt2] at hnd2
  have HM := Lib.hid htt
  have HM2 := Lib.hid htt2
  obtain ⟨n1, d1⟩ := hnd
  obtain ⟨n2, d2⟩ := hnd2
  have hd1 : t1.depth ≤ 20 := by omega
  have hd2 : t2.depth ≤ 20 := by omega
  have hd3 : (t1.sum t2).depth ≤ 20 := by have := sum_depth t1 t2; omega
  have hz1 := text_small hd1
  have hz2 := text_small hd2
  obtain ⟨D, hD⟩ : ∃ D, t1.disj t2 = D := ⟨_, rfl⟩
  obtain ⟨CV, hCV⟩ : ∃ D, t1.cov t2 = D := ⟨_, rfl⟩
  obtain ⟨SM, hSM⟩ : ∃ D, t1.same t2 = D := ⟨_, rfl⟩
  obtain ⟨s1, hs1⟩ : ∃ s, t1.text = s := ⟨_, rfl⟩
  obtain ⟨s2, hs2⟩ : ∃ s, t2.text = s := ⟨_, rfl⟩
  have hte : (s1.toList == s2.toList) = SM := by
    rw [← hSM, Bool.eq_iff_iff, same_iff n1 n2]
    simp only [beq_iff_eq]
    constructor
    · intro hh
      rw [← hs1, ← hs2, text_str, text_str, bs_toList, bs_toList] at hh
      exact (str_inj t1 t2 [] [] (by rw [hh])).1
    · intro hh
      rw [← hs1, ← hs2, hh]
  have HD := Lib.hid hD
  have HCV := Lib.hid hCV
  have HSM := Lib.hid hSM
  have HT1 := Lib.hid hs1
  have HT2 := Lib.hid hs2
  have HS1 := Lib.hid (sum_cov_l n1 n2)
  have HS2 := Lib.hid (sum_cov_r n1 n2)
  have HCM := Lib.hid (sum_comm n1 n2)
  have HDS := Lib.hid ((disj_symm n1 n2).trans hD)
  have HS34 := Lib.hid (T.same_refl (t1.sum t2))
  have N1 := Lib.hid n1
  have N2 := Lib.hid n2
  clear htt htt2 n1 n2 hD hCV hSM hs1 hs2 d1 d2
  go_enter Try.func10, Try.ntmps10
  go_upto_region 4 with (first
    | (go_at_call 17; refine Calls.mono (awake_any _) ?_; rintro e wn ⟨rfl, hk⟩; have hb := hb.trans (hk.mono hb.size); clear hk)
    | (go_at_call 31; refine Calls.mono (made_is _ (HB.out.below hb) HY.out hl HM.out) ?_; rintro e wn ⟨v, p, rfl, hv, hp, hkk⟩; obtain ⟨o1, q1, rfl, ho⟩ := hv.shape'; have H1 := Lib.hid hv; have HP := Lib.hid hp; have hb := hb.trans (hkk.mono hb.size); clear hv hp hkk))
  have b1 := Bx.new wn o1 q1
  have H1 := Lib.hid (H1.out.alloc (.cells #[.bool o1, .pointer q1] 31))
  have HP := Lib.hid (HP.out.alloc (.cells #[.bool o1, .pointer q1] 31))
  have hb := hb.alloc hb.size (.cells #[.bool o1, .pointer q1] 31)
  generalize wn.alloc (.cells #[.bool o1, .pointer q1] 31) = wz at *
  obtain ⟨X1, eX1⟩ : ∃ X1, wn.heap.size = X1 := ⟨_, rfl⟩
  rw [eX1] at b1 ⊢
  go_upto_region 5 with (go_at_call 31; refine Calls.mono (made_is _ (HB2.out.below hb) HY2.out hl2 HM2.out) ?_; rintro e wn ⟨v2, p2, rfl, hv, hp, hkk⟩; obtain ⟨o2, q2, rfl, ho⟩ := hv.shape'; have H2 := Lib.hid hv; have HQ := Lib.hid hp; have hb := hb.trans (hkk.mono hb.size); have b1 := b1.below hkk; have H1 := Lib.hid (H1.out.below hkk); have HP := Lib.hid (HP.out.below hkk); clear hv hp hkk)
  have b2 := Bx.new wn o2 q2
  have b1 := b1.alloc (.cells #[.bool o2, .pointer q2] 31)
  have H1 := Lib.hid (H1.out.alloc (.cells #[.bool o2, .pointer q2] 31))
  have H2 := Lib.hid (H2.out.alloc (.cells #[.bool o2, .pointer q2] 31))
  have HP := Lib.hid (HP.out.alloc (.cells #[.bool o2, .pointer q2] 31))
  have HQ := Lib.hid (HQ.out.alloc (.cells #[.bool o2, .pointer q2] 31))
  have hb := hb.alloc hb.size (.cells #[.bool o2, .pointer q2] 31)
  generalize wn.alloc (.cells #[.bool o2, .pointer q2] 31) = wz at *
  obtain ⟨X2, eX2⟩ : ∃ X2, wn.heap.size = X2 := ⟨_, rfl⟩
  rw [eX2] at b2 ⊢
  have c10 := b1.c0
  have c11 := b1.c1
  have c20 := b2.c0
  have c21 := b2.c1
  obtain ⟨g1, _, _, rfl, _⟩ := HP.out.shape
  obtain ⟨g2, _, _, rfl, _⟩ := HQ.out.shape
  go_upto_region 6 with (go_at_call 38; refine Calls.mono (rdisj_is _ N1.out N2.out hd1 hd2 HP.out HQ.out HD.out) ?_; rintro e wn ⟨rfl, hkk⟩; have hb := hb.trans (hkk.mono hb.size); have b1 := b1.below hkk; have b2 := b2.below hkk; have H1 := Lib.hid (H1.out.below hkk); have H2 := Lib.hid (H2.out.below hkk); have HP := Lib.hid (HP.out.below hkk); have HQ := Lib.hid (HQ.out.below hkk); clear c10 c11 c20 c21; have c10 := b1.c0; have c11 := b1.c1; have c20 := b2.c0; have c21 := b2.c1; clear hkk)
  cases D with
  | false =>
    have HSU := Lib.hid (show sumR t1 t2 = (.z, 5) by unfold sumR; rw [if_neg (by rw [HD.out]; exact Bool.false_ne_true)])
    go_upto_region 7 with (go_at_call 23; refine Calls.mono (sum_is _ H1.out H2.out HSU.out) ?_; rintro e wn ⟨v, rfl, hv, hkk⟩; obtain ⟨o3, q3, rfl, ho3⟩ := hv.shape'; have H3 := Lib.hid hv; clear hv; have hb := hb.trans (hkk.mono hb.size); have b1 := b1.below hkk; have b2 := b2.below hkk; have H1 := Lib.hid (H1.out.below hkk); have H2 := Lib.hid (H2.out.below hkk); have HP := Lib.hid (HP.out.below hkk); have HQ := Lib.hid (HQ.out.below hkk); clear hkk)
    have b3 := Bx.new wn o3 q3
    have b1 := b1.alloc (.cells #[.bool o3, .pointer q3] 31)
    have b2 := b2.alloc (.cells #[.bool o3, .pointer q3] 31)
    have H1 := Lib.hid (H1.out.alloc (.cells #[.bool o3, .pointer q3] 31))
    have H2 := Lib.hid (H2.out.alloc (.cells #[.bool o3, .pointer q3] 31))
    have HP := Lib.hid (HP.out.alloc (.cells #[.bool o3, .pointer q3] 31))
    have HQ := Lib.hid (HQ.out.alloc (.cells #[.bool o3, .pointer q3] 31))
    have H3 := Lib.hid (H3.out.alloc (.cells #[.bool o3, .pointer q3] 31))
    have hb := hb.alloc hb.size (.cells #[.bool o3, .pointer q3] 31)
    generalize wn.alloc (.cells #[.bool o3, .pointer q3] 31) = wz at *
    obtain ⟨X3, eX3⟩ : ∃ X3, wn.heap.size = X3 := ⟨_, rfl⟩
    rw [eX3] at b3 ⊢
    clear c10 c11 c20 c21
    have c10 := b1.c0
    have c11 := b1.c1
    have c20 := b2.c0
    have c21 := b2.c1
    have c30 := b3.c0
    have c31 := b3.c1
    go_wp2_with (first
      | (go_at_call 22; (with_reducible refine Calls.mono (disj_is _ H1.out H2.out HD.out) ?_); rintro e wn ⟨rfl, hkk⟩; have hb := hb.trans (hkk.mono hb.size); have b1 := b1.below hkk; have b2 := b2.below hkk; have b3 := b3.below hkk; have H1 := Lib.hid (H1.out.below hkk); have H2 := Lib.hid (H2.out.below hkk); have HP := Lib.hid (HP.out.below hkk); have HQ := Lib.hid (HQ.out.below hkk); have H3 := Lib.hid (H3.out.below hkk); clear c10 c11 c20 c21 c30 c31; have c10 := b1.c0; have c11 := b1.c1; have c20 := b2.c0; have c21 := b2.c1; have c30 := b3.c0; have c31 := b3.c1; clear hkk)
      | (go_at_call 34; (with_reducible refine Calls.mono (cov_is _ H1.out H2.out HCV.out) ?_); rintro e wn ⟨rfl, hkk⟩; have hb := hb.trans (hkk.mono hb.size); have b1 := b1.below hkk; have b2 := b2.below hkk; have b3 := b3.below hkk; have H1 := Lib.hid (H1.out.below hkk); have H2 := Lib.hid (H2.out.below hkk); have HP := Lib.hid (HP.out.below hkk); have HQ := Lib.hid (HQ.out.below hkk); have H3 := Lib.hid (H3.out.below hkk); clear c10 c11 c20 c21 c30 c31; have c10 := b1.c0; have c11 := b1.c1; have c20 := b2.c0; have c21 := b2.c1; have c30 := b3.c0; have c31 := b3.c1; clear hkk)
      | (go_at_call 39; (with_reducible refine Calls.mono (rcov_is _ N1.out N2.out hd1 hd2 HP.out HQ.out HCV.out) ?_); rintro e wn ⟨rfl, hkk⟩; have hb := hb.trans (hkk.mono hb.size); have b1 := b1.below hkk; have b2 := b2.below hkk; have b3 := b3.below hkk; have H1 := Lib.hid (H1.out.below hkk); have H2 := Lib.hid (H2.out.below hkk); have HP := Lib.hid (HP.out.below hkk); have HQ := Lib.hid (HQ.out.below hkk); have H3 := Lib.hid (H3.out.below hkk); clear c10 c11 c20 c21 c30 c31; have c10 := b1.c0; have c11 := b1.c1; have c20 := b2.c0; have c21 := b2.c1; have c30 := b3.c0; have c31 := b3.c1; clear hkk)
      | (go_at_call 35; (with_reducible refine Calls.mono (same_is _ H1.out H2.out HSM.out) ?_); rintro e wn ⟨rfl, hkk⟩; have hb := hb.trans (hkk.mono hb.size); have b1 := b1.below hkk; have b2 := b2.below hkk; have b3 := b3.below hkk; have H1 := Lib.hid (H1.out.below hkk); have H2 := Lib.hid (H2.out.below hkk); have HP := Lib.hid (HP.out.below hkk); have HQ := Lib.hid (HQ.out.below hkk); have H3 := Lib.hid (H3.out.below hkk); clear c10 c11 c20 c21 c30 c31; have c10 := b1.c0; have c11 := b1.c1; have c20 := b2.c0; have c21 := b2.c1; have c30 := b3.c0; have c31 := b3.c1; clear hkk)
      | (go_at_call_of 40 (Value.pointer (some ⟨g1, 0, none⟩)); (with_reducible refine Calls.mono (rtext_is _ HP.out HT1.out hz1) ?_); rintro e wn ⟨rfl, hkk⟩; have hb := hb.trans (hkk.mono hb.size); have b1 := b1.below hkk; have b2 := b2.below hkk; have b3 := b3.below hkk; have H1 := Lib.hid (H1.out.below hkk); have H2 := Lib.hid (H2.out.below hkk); have HP := Lib.hid (HP.out.below hkk); have HQ := Lib.hid (HQ.out.below hkk); have H3 := Lib.hid (H3.out.below hkk); clear c10 c11 c20 c21 c30 c31; have c10 := b1.c0; have c11 := b1.c1; have c20 := b2.c0; have c21 := b2.c1; have c30 := b3.c0; have c31 := b3.c1; clear hkk)
      | (go_at_call_of 40 (Value.pointer (some ⟨g2, 0, none⟩)); (with_reducible refine Calls.mono (rtext_is _ HQ.out HT2.out hz2) ?_); rintro e wn ⟨rfl, hkk⟩; have hb := hb.trans (hkk.mono hb.size); have b1 := b1.below hkk; have b2 := b2.below hkk; have b3 := b3.below hkk; have H1 := Lib.hid (H1.out.below hkk); have H2 := Lib.hid (H2.out.below hkk); have HP := Lib.hid (HP.out.below hkk); have HQ := Lib.hid (HQ.out.below hkk); have H3 := Lib.hid (H3.out.below hkk); clear c10 c11 c20 c21 c30 c31; have c10 := b1.c0; have c11 := b1.c1; have c20 := b2.c0; have c21 := b2.c1; have c30 := b3.c0; have c31 := b3.c1; clear hkk)
      | (go_at_call 24; refine Calls.mono (isZero_is _ H3.out (rfl : _ = true)) ?_; rintro e wn ⟨rfl, hkk⟩; have hb := hb.trans (hkk.mono hb.size); have b1 := b1.below hkk; have b2 := b2.below hkk; have b3 := b3.below hkk; have H1 := Lib.hid (H1.out.below hkk); have H2 := Lib.hid (H2.out.below hkk); have HP := Lib.hid (HP.out.below hkk); have HQ := Lib.hid (HQ.out.below hkk); have H3 := Lib.hid (H3.out.below hkk); clear c10 c11 c20 c21 c30 c31; have c10 := b1.c0; have c11 := b1.c1; have c20 := b2.c0; have c21 := b2.c1; have c30 := b3.c0; have c31 := b3.c1; clear hkk))
    go_ret
    exact ⟨by trivial, hb⟩
  | true =>
    have HSU := Lib.hid (show sumR t1 t2 = (t1.sum t2, 0) by unfold sumR; rw [if_pos HD.out])
    have HSV := Lib.hid (show sumR t2 t1 = (t1.sum t2, 0) by unfold sumR; rw [if_pos HDS.out, HCM.out])
    go_upto_region 7 with (go_at_call 23; refine Calls.mono (sum_is _ H1.out H2.out HSU.out) ?_; rintro e wn ⟨v, rfl, hv, hkk⟩; obtain ⟨o3, q3, rfl, ho3⟩ := hv.shape'; have H3 := Lib.hid hv; clear hv; have hb := hb.trans (hkk.mono hb.size); have b1 := b1.below hkk; have b2 := b2.below hkk; have H1 := Lib.hid (H1.out.below hkk); have H2 := Lib.hid (H2.out.below hkk); have HP := Lib.hid (HP.out.below hkk); have HQ := Lib.hid (HQ.out.below hkk); clear hkk)
    have b3 := Bx.new wn o3 q3
    have b1 := b1.alloc (.cells #[.bool o3, .pointer q3] 31)
    have b2 := b2.alloc (.cells #[.bool o3, .pointer q3] 31)
    have H1 := Lib.hid (H1.out.alloc (.cells #[.bool o3, .pointer q3] 31))
    have H2 := Lib.hid (H2.out.alloc (.cells #[.bool o3, .pointer q3] 31))
    have HP := Lib.hid (HP.out.alloc (.cells #[.bool o3, .pointer q3] 31))
    have HQ := Lib.hid (HQ.out.alloc (.cells #[.bool o3, .pointer q3] 31))
    have H3 := Lib.hid (H3.out.alloc (.cells #[.bool o3, .pointer q3] 31))
    have hb := hb.alloc hb.size (.cells #[.bool o3, .pointer q3] 31)
    generalize wn.alloc (.cells #[.bool o3, .pointer q3] 31) = wz at *
    obtain ⟨X3, eX3⟩ : ∃ X3, wn.heap.size = X3 := ⟨_, rfl⟩
    rw [eX3] at b3 ⊢
    clear c10 c11 c20 c21
    have c10 := b1.c0
    have c11 := b1.c1
    have c20 := b2.c0
    have c21 := b2.c1
    have c30 := b3.c0
    have c31 := b3.c1
    go_upto_region 11 with (first
      | (go_at_call 22; (with_reducible refine Calls.mono (disj_is _ H1.out H2.out HD.out) ?_); rintro e wn ⟨rfl, hkk⟩; have hb := hb.trans (hkk.mono hb.size); have b1 := b1.below hkk; have b2 := b2.below hkk; have b3 := b3.below hkk; have H1 := Lib.hid (H1.out.below hkk); have H2 := Lib.hid (H2.out.below hkk); have HP := Lib.hid (HP.out.below hkk); have HQ := Lib.hid (HQ.out.below hkk); have H3 := Lib.hid (H3.out.below hkk); clear c10 c11 c20 c21 c30 c31; have c10 := b1.c0; have c11 := b1.c1; have c20 := b2.c0; have c21 := b2.c1; have c30 := b3.c0; have c31 := b3.c1; clear hkk)
      | (go_at_call 34; (with_reducible refine Calls.mono (cov_is _ H1.out H2.out HCV.out) ?_); rintro e wn ⟨rfl, hkk⟩; have hb := hb.trans (hkk.mono hb.size); have b1 := b1.below hkk; have b2 := b2.below hkk; have b3 := b3.below hkk; have H1 := Lib.hid (H1.out.below hkk); have H2 := Lib.hid (H2.out.below hkk); have HP := Lib.hid (HP.out.below hkk); have HQ := Lib.hid (HQ.out.below hkk); have H3 := Lib.hid (H3.out.below hkk); clear c10 c11 c20 c21 c30 c31; have c10 := b1.c0; have c11 := b1.c1; have c20 := b2.c0; have c21 := b2.c1; have c30 := b3.c0; have c31 := b3.c1; clear hkk)
      | (go_at_call 39; (with_reducible refine Calls.mono (rcov_is _ N1.out N2.out hd1 hd2 HP.out HQ.out HCV.out) ?_); rintro e wn ⟨rfl, hkk⟩; have hb := hb.trans (hkk.mono hb.size); have b1 := b1.below hkk; have b2 := b2.below hkk; have b3 := b3.below hkk; have H1 := Lib.hid (H1.out.below hkk); have H2 := Lib.hid (H2.out.below hkk); have HP := Lib.hid (HP.out.below hkk); have HQ := Lib.hid (HQ.out.below hkk); have H3 := Lib.hid (H3.out.below hkk); clear c10 c11 c20 c21 c30 c31; have c10 := b1.c0; have c11 := b1.c1; have c20 := b2.c0; have c21 := b2.c1; have c30 := b3.c0; have c31 := b3.c1; clear hkk)
      | (go_at_call 35; (with_reducible refine Calls.mono (same_is _ H1.out H2.out HSM.out) ?_); rintro e wn ⟨rfl, hkk⟩; have hb := hb.trans (hkk.mono hb.size); have b1 := b1.below hkk; have b2 := b2.below hkk; have b3 := b3.below hkk; have H1 := Lib.hid (H1.out.below hkk); have H2 := Lib.hid (H2.out.below hkk); have HP := Lib.hid (HP.out.below hkk); have HQ := Lib.hid (HQ.out.below hkk); have H3 := Lib.hid (H3.out.below hkk); clear c10 c11 c20 c21 c30 c31; have c10 := b1.c0; have c11 := b1.c1; have c20 := b2.c0; have c21 := b2.c1; have c30 := b3.c0; have c31 := b3.c1; clear hkk)
      | (go_at_call_of 40 (Value.pointer (some ⟨g1, 0, none⟩)); (with_reducible refine Calls.mono (rtext_is _ HP.out HT1.out hz1) ?_); rintro e wn ⟨rfl, hkk⟩; have hb := hb.trans (hkk.mono hb.size); have b1 := b1.below hkk; have b2 := b2.below hkk; have b3 := b3.below hkk; have H1 := Lib.hid (H1.out.below hkk); have H2 := Lib.hid (H2.out.below hkk); have HP := Lib.hid (HP.out.below hkk); have HQ := Lib.hid (HQ.out.below hkk); have H3 := Lib.hid (H3.out.below hkk); clear c10 c11 c20 c21 c30 c31; have c10 := b1.c0; have c11 := b1.c1; have c20 := b2.c0; have c21 := b2.c1; have c30 := b3.c0; have c31 := b3.c1; clear hkk)
      | (go_at_call_of 40 (Value.pointer (some ⟨g2, 0, none⟩)); (with_reducible refine Calls.mono (rtext_is _ HQ.out HT2.out hz2) ?_); rintro e wn ⟨rfl, hkk⟩; have hb := hb.trans (hkk.mono hb.size); have b1 := b1.below hkk; have b2 := b2.below hkk; have b3 := b3.below hkk; have H1 := Lib.hid (H1.out.below hkk); have H2 := Lib.hid (H2.out.below hkk); have HP := Lib.hid (HP.out.below hkk); have HQ := Lib.hid (HQ.out.below hkk); have H3 := Lib.hid (H3.out.below hkk); clear c10 c11 c20 c21 c30 c31; have c10 := b1.c0; have c11 := b1.c1; have c20 := b2.c0; have c21 := b2.c1; have c30 := b3.c0; have c31 := b3.c1; clear hkk))
    go_upto_region 12 with (go_at_call 23; refine Calls.mono (sum_is _ H2.out H1.out HSV.out) ?_; rintro e wn ⟨v, rfl, hv, hkk⟩; obtain ⟨o4, q4, rfl, ho4⟩ := hv.shape'; have H4 := Lib.hid hv; clear hv; have hb := hb.trans (hkk.mono hb.size); have b1 := b1.below hkk; have b2 := b2.below hkk; have b3 := b3.below hkk; have H1 := Lib.hid (H1.out.below hkk); have H2 := Lib.hid (H2.out.below hkk); have HP := Lib.hid (HP.out.below hkk); have HQ := Lib.hid (HQ.out.below hkk); have H3 := Lib.hid (H3.out.below hkk); clear hkk)
    have b4 := Bx.new wn o4 q4
    have b1 := b1.alloc (.cells #[.bool o4, .pointer q4] 31)
    have b2 := b2.alloc (.cells #[.bool o4, .pointer q4] 31)
    have b3 := b3.alloc (.cells #[.bool o4, .pointer q4] 31)
    have H1 := Lib.hid (H1.out.alloc (.cells #[.bool o4, .pointer q4] 31))
    have H2 := Lib.hid (H2.out.alloc (.cells #[.bool o4, .pointer q4] 31))
    have HP := Lib.hid (HP.out.alloc (.cells #[.bool o4, .pointer q4] 31))
    have HQ := Lib.hid (HQ.out.alloc (.cells #[.bool o4, .pointer q4] 31))
    have H3 := Lib.hid (H3.out.alloc (.cells #[.bool o4, .pointer q4] 31))
    have H4 := Lib.hid (H4.out.alloc (.cells #[.bool o4, .pointer q4] 31))
    have hb := hb.alloc hb.size (.cells #[.bool o4, .pointer q4] 31)
    generalize wn.alloc (.cells #[.bool o4, .pointer q4] 31) = wz at *
    obtain ⟨X4, eX4⟩ : ∃ X4, wn.heap.size = X4 := ⟨_, rfl⟩
    rw [eX4] at b4 ⊢
    clear c10 c11 c20 c21 c30 c31
    have hb := bdrew hb
    have b1 := b1.drew
    have b2 := b2.drew
    have b3 := b3.drew
    have b4 := b4.drew
    have H1 := Lib.hid H1.out.drew
    have H2 := Lib.hid H2.out.drew
    have HP := Lib.hid HP.out.drew
    have HQ := Lib.hid HQ.out.drew
    have H3 := Lib.hid H3.out.drew
    have H4 := Lib.hid H4.out.drew
    go_region_held3 (fun w' => w'.cell? ⟨X1, 0, none⟩ = some (.bool o1) ∧ w'.cell? ⟨X1, 1, none⟩ = some (.pointer q1) ∧ w'.cell? ⟨X2, 0, none⟩ = some (.bool o2) ∧ w'.cell? ⟨X2, 1, none⟩ = some (.pointer q2) ∧ w'.cell? ⟨X3, 0, none⟩ = some (.bool o3) ∧ w'.cell? ⟨X3, 1, none⟩ = some (.pointer q3) ∧ w'.cell? ⟨X4, 0, none⟩ = some (.bool o4) ∧ w'.cell? ⟨X4, 1, none⟩ = some (.pointer q4)) (exact ⟨b1.c0, b1.c1, b2.c0, b2.c1, b3.c0, b3.c1, b4.c0, b4.c1⟩)
      (first
        | (go_at_call 41; refine Calls.mono (rsum_any _ N1.out N2.out hd1 hd2 HD.out HP.out HQ.out) ?_; rintro e wn ⟨pz, rfl, hpz, hkk⟩; have hb := hb.trans (hkk.mono hb.size); have b1 := b1.below hkk; have b2 := b2.below hkk; have b3 := b3.below hkk; have b4 := b4.below hkk; have H1 := Lib.hid (H1.out.below hkk); have H2 := Lib.hid (H2.out.below hkk); have HP := Lib.hid (HP.out.below hkk); have HQ := Lib.hid (HQ.out.below hkk); have H3 := Lib.hid (H3.out.below hkk); have H4 := Lib.hid (H4.out.below hkk); clear hkk; have HZ := Lib.hid hpz; clear hpz)
        | (go_at_call 29; (with_reducible refine Calls.mono (like_any _ hd3 H3.out HZ.out) ?_); rintro e wn ⟨rfl, hkk⟩; have hb := hb.trans (hkk.mono hb.size); have b1 := b1.below hkk; have b2 := b2.below hkk; have b3 := b3.below hkk; have b4 := b4.below hkk; have H1 := Lib.hid (H1.out.below hkk); have H2 := Lib.hid (H2.out.below hkk); have HP := Lib.hid (HP.out.below hkk); have HQ := Lib.hid (HQ.out.below hkk); have H3 := Lib.hid (H3.out.below hkk); have H4 := Lib.hid (H4.out.below hkk); clear hkk)
        | (go_at_call 35; (with_reducible refine Calls.mono (same_is _ H3.out H4.out HS34.out) ?_); rintro e wn ⟨rfl, hkk⟩; have hb := hb.trans (hkk.mono hb.size); have b1 := b1.below hkk; have b2 := b2.below hkk; have b3 := b3.below hkk; have b4 := b4.below hkk; have H1 := Lib.hid (H1.out.below hkk); have H2 := Lib.hid (H2.out.below hkk); have HP := Lib.hid (HP.out.below hkk); have HQ := Lib.hid (HQ.out.below hkk); have H3 := Lib.hid (H3.out.below hkk); have H4 := Lib.hid (H4.out.below hkk); clear hkk)
        | (go_at_call 34; (with_reducible refine Calls.mono (cov_is _ H3.out H1.out HS1.out) ?_); rintro e wn ⟨rfl, hkk⟩; have hb := hb.trans (hkk.mono hb.size); have b1 := b1.below hkk; have b2 := b2.below hkk; have b3 := b3.below hkk; have b4 := b4.below hkk; have H1 := Lib.hid (H1.out.below hkk); have H2 := Lib.hid (H2.out.below hkk); have HP := Lib.hid (HP.out.below hkk); have HQ := Lib.hid (HQ.out.below hkk); have H3 := Lib.hid (H3.out.below hkk); have H4 := Lib.hid (H4.out.below hkk); clear hkk)
        | (go_at_call 34; (with_reducible refine Calls.mono (cov_is _ H3.out H2.out HS2.out) ?_); rintro e wn ⟨rfl, hkk⟩; have hb := hb.trans (hkk.mono hb.size); have b1 := b1.below hkk; have b2 := b2.below hkk; have b3 := b3.below hkk; have b4 := b4.below hkk; have H1 := Lib.hid (H1.out.below hkk); have H2 := Lib.hid (H2.out.below hkk); have HP := Lib.hid (HP.out.below hkk); have HQ := Lib.hid (HQ.out.below hkk); have H3 := Lib.hid (H3.out.below hkk); have H4 := Lib.hid (H4.out.below hkk); clear hkk))
    go_wp2_with fail
    go_ret
    exact ⟨by trivial, hb⟩
end Go.Proofs.Ytigkjmfkpmehlaa
