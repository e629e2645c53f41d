/- The walk of ShareWeights. (Printed by wip/ids/weightsw.py.) -/
import Derived.Test.YtigkjmfkpmehlaaEvWeight2
namespace Go.Proofs.Ytigkjmfkpmehlaa
open Go.RowKit

theorem run_max_fl {a b m : Nat} (ts : Array TypeId) (t : TypeId) (W : World) (ha : a < 2 ^ 50) (hb : b < 2 ^ 50) (hm : Nat.max a b = m) : (Builtin.max_ ts t #[.float .f64 (fl a), .float .f64 (fl b)]).run Try.prog W = .ok (.float .f64 (fl m)) W := by
  subst hm
  have e : Nat.max a b = max a b := rfl
  rw [e]
  have h := fl_order (a := a) (b := b) (by omega) (by omega)
  rcases Nat.lt_trichotomy a b with k | k | k
  · rw [Nat.compare_eq_lt.2 k] at h
    simp [Builtin.max_, Builtin.max2, h, show max a b = b by omega]
  · subst k
    rw [Nat.compare_eq_eq.2 rfl] at h
    simp [Builtin.max_, Builtin.max2, h]
  · rw [Nat.compare_eq_gt.2 k] at h
    simp [Builtin.max_, Builtin.max2, h, show max a b = a by omega]
theorem EVV.dr {w : World} {e : Ev} {v : Value} (h : EVV w e v) : EVV w.drew e v := h.drew
set_option maxRecDepth 100000 in
set_option maxHeartbeats 6400000 in
theorem weights_any {ys zs : List Int} {v u : Value} (w : World) (h : BS w v ys) (hy : ∀ x ∈ ys, 0 ≤ x ∧ x ≤ 255) (hl : ys.length ≤ 9223372036854775807) (k : BS w u zs) (ky : ∀ x ∈ zs, 0 ≤ x ∧ x ≤ 255) (hl2 : zs.length ≤ 9223372036854775807) : Calls Try.prog 14 #[v, u] w fun e w' => e = .returned (.bool true) ∧ Below w.heap.size w w' := by
  have HB := Lib.hid h
  have HY := Lib.hid hy
  have HY2 := Lib.hid ky
  obtain ⟨a2, c2, rfl⟩ := k.shape
  have hc2 : zs.length ≤ c2 := by
    obtain ⟨a', c', hv, hh⟩ := k
    simp only [Value.slice.injEq] at hv
    obtain ⟨rfl, _, rfl⟩ := hv
    rcases hh with hh | ⟨b, off, _, h1, _⟩
    · rw [hh]
      simp
    · exact h1
  have HB2 := Lib.hid (fun kk hk => k.take (k := kk) hk)
  clear h hy k ky
  have hb := Below.refl w.heap.size w
  have hnd := mkT_norm ys
  have hne := mkE_nf 7 (zs.take 60)
  obtain ⟨t1, htt⟩ : ∃ t, mkT ys = t := ⟨_, rfl⟩
  obtain ⟨E, hE⟩ : ∃ t, (mkE 7 (zs.take 60)).1 = t := ⟨_, rfl⟩
  rw [htt] at hnd
  rw [hE] at hne
  have HM := Lib.hid htt
  have HE := Lib.hid hE
  obtain ⟨n1, d1⟩ := hnd
  obtain ⟨nE, dE, tE⟩ := hne
  have hd1 : t1.depth ≤ 16 := by omega
  have hd1s : t1.depth ≤ 100000 := by omega
  have hdE : E.depth ≤ 16 := by omega
  have htE : E.top ≤ 1048576 := by omega
  have NE := Lib.hid nE
  have hsd := T.split_depth t1
  have hd4 : t1.split.1.depth ≤ 16 := by omega
  have hd5 : t1.split.2.depth ≤ 16 := by omega
  have HSP := Lib.hid (show splitR t1 = (t1.split.1, t1.split.2, 0) by unfold splitR; rw [if_pos (by omega)])
  have hws := w_split E hd4 hd5 hd1
  obtain ⟨s1, hs1⟩ : ∃ s, t1.split.1 = s := ⟨_, rfl⟩
  obtain ⟨s2, hs2⟩ : ∃ s, t1.split.2 = s := ⟨_, rfl⟩
  rw [hs1] at HSP hd4 hws
  rw [hs2] at HSP hd5 hws
  have b0 := wS_le 16 E t1
  have b1' := wS_le 16 E s1
  have b2' := wS_le 16 E s2
  have t0 := wT_le 16 E t1
  have t1' := wT_le 16 E s1
  have t2' := wT_le 16 E s2
  have bE : E.top * 2 ^ 16 ≤ 1048576 * 2 ^ 16 := Nat.mul_le_mul_right _ htE
  obtain ⟨S0, eS0⟩ : ∃ n, wS 16 E t1 = n := ⟨_, rfl⟩
  obtain ⟨Sa, eSa⟩ : ∃ n, wS 16 E s1 = n := ⟨_, rfl⟩
  obtain ⟨Sb, eSb⟩ : ∃ n, wS 16 E s2 = n := ⟨_, rfl⟩
  obtain ⟨R0, eR0⟩ : ∃ n, wT 16 E t1 = n := ⟨_, rfl⟩
  obtain ⟨Ra, eRa⟩ : ∃ n, wT 16 E s1 = n := ⟨_, rfl⟩
  obtain ⟨Rb, eRb⟩ : ∃ n, wT 16 E s2 = n := ⟨_, rfl⟩
  rw [eS0, eSa, eSb, eR0, eRa, eRb] at hws
  rw [eS0] at b0
  rw [eSa] at b1'
  rw [eSb] at b2'
  rw [eR0] at t0
  rw [eRa] at t1'
  rw [eRb] at t2'
  obtain ⟨hsum, hmax⟩ := hws
  have hw0 : S0 < 2 ^ 50 := by omega
  have fadd := fl_add (a := Sa) (b := Sb) (by omega)
  rw [hsum] at fadd
  have fmx := fun (ts : Array TypeId) (t : TypeId) (W : World) => run_max_fl (a := 65536 * Ra) (b := 65536 * Rb) (m := 65536 * R0) ts t W (by omega) (by omega) (by rw [← hmax]; show max _ _ = 65536 * max _ _; omega)
  have fi := fl_int (n := R0) (by omega)
  have k0 := fl_self (n := S0) (by omega)
  have j0 := fl_self (n := 65536 * R0) (by omega)
  obtain ⟨x0, hx0⟩ : ∃ x, fl S0 = x := ⟨_, rfl⟩
  obtain ⟨xa, hxa⟩ : ∃ x, fl Sa = x := ⟨_, rfl⟩
  obtain ⟨xb, hxb⟩ : ∃ x, fl Sb = x := ⟨_, rfl⟩
  obtain ⟨y0, hy0⟩ : ∃ x, fl (65536 * R0) = x := ⟨_, rfl⟩
  obtain ⟨ya, hya⟩ : ∃ x, fl (65536 * Ra) = x := ⟨_, rfl⟩
  obtain ⟨yb, hyb⟩ : ∃ x, fl (65536 * Rb) = x := ⟨_, rfl⟩
  rw [hx0, hxa, hxb] at fadd
  rw [hx0] at k0
  rw [hy0] at j0 fi fmx
  rw [hya, hyb] at fmx
  have fsum := run_fb (.inr rfl) fadd
  have HX0 := Lib.hid (show fl (wS 16 E t1) = x0 by rw [eS0, hx0])
  have HXA := Lib.hid (show fl (wS 16 E s1) = xa by rw [eSa, hxa])
  have HXB := Lib.hid (show fl (wS 16 E s2) = xb by rw [eSb, hxb])
  have HY0 := Lib.hid (show fl (65536 * wT 16 E t1) = y0 by rw [eR0, hy0])
  have HYA := Lib.hid (show fl (65536 * wT 16 E s1) = ya by rw [eRa, hya])
  have HYB := Lib.hid (show fl (65536 * wT 16 E s2) = yb by rw [eRb, hyb])
  have HIC := Lib.hid hx0
  have HRW := Lib.hid (fun (v u : Value) (wx : World) (h1 : REV wx E v) (h2 : RV wx t1 u) => rw_ok 16 (by omega) E t1 v u 65536 S0 R0 wx hdE hd1 htE (by decide) eS0 eR0 h1 h2)
  clear htt hE d1 n1 nE dE tE hsd hs1 hs2 b0 b1' b2' t0 t1' t2' bE eS0 eSa eSb eR0 eRa eRb hsum hmax fadd hx0 hxa hxb hy0 hya hyb
  go_enter Try.func14, Try.ntmps14
  go_upto_region 4 with (first
    | (go_at_call 15; refine Calls.mono (awake3_any _) ?_; rintro e wn ⟨rfl, hk⟩; have hb := hb.trans (hk.mono hb.size); clear hk)
    | (go_at_call 42; refine Calls.mono (made3_is _ (HB.out.below hb) HY.out hl HM.out) ?_; rintro e wn ⟨v, p, rfl, hv, hp, hkk⟩; obtain ⟨o1, q1, rfl, ho⟩ := hv.shape'; have H1 := Lib.hid hv; have HP := Lib.hid hp; have hb := hb.trans (hkk.mono hb.size); clear hv hp hkk))
  have b1 := Bx.new wn o1 q1
  have H1 := Lib.hid (H1.out.alloc (.cells #[.bool o1, .pointer q1] 31))
  have HP := Lib.hid (HP.out.alloc (.cells #[.bool o1, .pointer q1] 31))
  have hb := hb.alloc hb.size (.cells #[.bool o1, .pointer q1] 31)
  generalize wn.alloc (.cells #[.bool o1, .pointer q1] 31) = wz at *
  obtain ⟨X1, eX1⟩ : ∃ X1, wn.heap.size = X1 := ⟨_, rfl⟩
  rw [eX1] at b1 ⊢
  obtain ⟨g1, _, _, rfl, _⟩ := HP.out.shape
  have hq := Below.refl wz.heap.size wz
  go_cut [7] (fun s7 wx => ∃ g2 : Nat, s7 = .pointer (some ⟨g2, 0, none⟩) ∧ Hid (REV wx E (.pointer (some ⟨g2, 0, none⟩))) ∧ Below wz.heap.size wz wx)
  case first =>
    go_wp2_with fail
    all_goals
      refine Calls.mono (rmake_any 7 (zs.take 60) 7 _ _ rfl (by omega) ((HB2.out _ (by rw [List.length_take]; omega)).below hb) (fun x hx => HY2.out x (List.mem_of_mem_take hx))) ?_
      rintro e wn ⟨p, s, rfl, hp, _, hkk⟩
      rw [HE.out] at hp
      obtain ⟨g2, _, _, rfl, _⟩ := hp.view
      have HQ := Lib.hid hp
      have hq := hq.trans (hkk.mono hq.size)
      clear hp hkk
      go_wp2_with fail
      go_meet
      exact ⟨g2, by trivial, HQ, hq⟩
  case rest =>
    obtain ⟨g2, rfl, HQ, hkk⟩ := hcut
    have hb := hb.trans (hkk.mono hb.size)
    have b1 := b1.below hkk
    have H1 := Lib.hid (H1.out.below hkk)
    have HP := Lib.hid (HP.out.below hkk)
    clear hkk
    go_upto_region 6 with (go_at_call 52; (with_reducible refine Calls.mono (tree_any _ NE.out hdE htE HQ.out) ?_); rintro e wn ⟨u, rfl, hu, hkk⟩; obtain ⟨pe, rfl, _⟩ := hu.shape; have hb := hb.trans (hkk.mono hb.size); have b1 := b1.below hkk; have H1 := Lib.hid (H1.out.below hkk); have HP := Lib.hid (HP.out.below hkk); have HQ := Lib.hid (HQ.out.below hkk); have HT := Lib.hid hu; clear hu hkk)
    obtain ⟨A, hA⟩ : ∃ A, E.base = A := ⟨_, rfl⟩
    rw [hA] at HT ⊢
    clear hA
    have b2 := EB.new wn A pe
    have b1 := b1.alloc (.cells #[.int .u64 (A : Int), .pointer pe] 77)
    have H1 := Lib.hid (H1.out.alloc (.cells #[.int .u64 (A : Int), .pointer pe] 77))
    have HP := Lib.hid (HP.out.alloc (.cells #[.int .u64 (A : Int), .pointer pe] 77))
    have HQ := Lib.hid (HQ.out.alloc (.cells #[.int .u64 (A : Int), .pointer pe] 77))
    have HT := Lib.hid (HT.out.alloc (.cells #[.int .u64 (A : Int), .pointer pe] 77))
    have hb := hb.alloc hb.size (.cells #[.int .u64 (A : Int), .pointer pe] 77)
    generalize wn.alloc (.cells #[.int .u64 (A : Int), .pointer pe] 77) = wy at *
    obtain ⟨X2, eX2⟩ : ∃ X2, wn.heap.size = X2 := ⟨_, rfl⟩
    rw [eX2] at b2 ⊢
    have c10 := b1.c0
    have c11 := b1.c1
    have c20 := b2.c0
    have c21 := b2.c1
    go_upto_region 8 with (first
      | (go_at_call 53; (with_reducible refine Calls.mono (Weight_at _ HT.out H1.out hdE hd1 htE HX0.out HY0.out) ?_); rintro e wn ⟨rfl, hkk⟩; have hb := hb.trans (hkk.mono hb.size); have b1 := b1.below hkk; have b2 := b2.below hkk; have H1 := Lib.hid (H1.out.below hkk); have HP := Lib.hid (HP.out.below hkk); have HQ := Lib.hid (HQ.out.below hkk); have HT := Lib.hid (HT.out.below hkk); clear c10 c11 c20 c21; have c10 := b1.c0; have c11 := b1.c1; have c20 := b2.c0; have c21 := b2.c1; clear hkk)
      | (go_at_call 54; (with_reducible refine Calls.mono (HRW.out _ _ _ HQ.out HP.out) ?_); rintro e wn ⟨rfl, hkk⟩; have hb := hb.trans (hkk.mono hb.size); have b1 := b1.below hkk; have b2 := b2.below hkk; have H1 := Lib.hid (H1.out.below hkk); have HP := Lib.hid (HP.out.below hkk); have HQ := Lib.hid (HQ.out.below hkk); have HT := Lib.hid (HT.out.below hkk); clear c10 c11 c20 c21; have c10 := b1.c0; have c11 := b1.c1; have c20 := b2.c0; have c21 := b2.c1; clear hkk))
    go_upto_region 9 with (go_at_call 19; refine Calls.mono (split_is _ H1.out hd1s HSP.out) ?_; rintro e wn ⟨v, v2, rfl, hv, hv2, hkk⟩; obtain ⟨o4, q4, rfl, ho4⟩ := hv.shape'; have H4 := Lib.hid hv; clear hv; obtain ⟨o5, q5, rfl, ho5⟩ := hv2.shape'; have H5 := Lib.hid hv2; clear hv2; have hb := hb.trans (hkk.mono hb.size); have b2 := b2.below hkk; have HT := Lib.hid (HT.out.below hkk); clear hkk)
    have b4 := (Bx.new wn o4 q4).alloc (.cells #[.bool o5, .pointer q5] 31)
    have b5 := Bx.new1 wn o5 q5 (.cells #[.bool o4, .pointer q4] 31)
    have b2 := (b2.alloc (.cells #[.bool o4, .pointer q4] 31)).alloc (.cells #[.bool o5, .pointer q5] 31)
    have HT := Lib.hid ((HT.out.alloc (.cells #[.bool o4, .pointer q4] 31)).alloc (.cells #[.bool o5, .pointer q5] 31))
    have H4 := Lib.hid ((H4.out.alloc (.cells #[.bool o4, .pointer q4] 31)).alloc (.cells #[.bool o5, .pointer q5] 31))
    have H5 := Lib.hid ((H5.out.alloc (.cells #[.bool o4, .pointer q4] 31)).alloc (.cells #[.bool o5, .pointer q5] 31))
    have hb := (hb.alloc hb.size (.cells #[.bool o4, .pointer q4] 31)).alloc (by simp only [asz]; have := hb.size; omega) (.cells #[.bool o5, .pointer q5] 31)
    generalize (wn.alloc (.cells #[.bool o4, .pointer q4] 31)).alloc (.cells #[.bool o5, .pointer q5] 31) = wz at *
    obtain ⟨X4, eX4⟩ : ∃ X4, wn.heap.size = X4 := ⟨_, rfl⟩
    rw [eX4] at b4 b5 ⊢
    obtain ⟨X5, eX5⟩ : ∃ X5, X4 + 1 = X5 := ⟨_, rfl⟩
    rw [eX5] at b5 ⊢
    clear c10 c11 c20 c21
    have hb := bdrew hb
    have b2 := b2.drew
    have b4 := b4.drew
    have b5 := b5.drew
    have HT := Lib.hid HT.out.drew
    have H4 := Lib.hid H4.out.drew
    have H5 := Lib.hid H5.out.drew
    go_region_held3 (fun w' => (w'.cell? ⟨X2, 0, none⟩ = some (.int .u64 (A : Int)) ∧ w'.cell? ⟨X2, 1, none⟩ = some (.pointer pe)) ∧ w'.cell? ⟨X4, 0, none⟩ = some (.bool o4) ∧ w'.cell? ⟨X4, 1, none⟩ = some (.pointer q4) ∧ w'.cell? ⟨X5, 0, none⟩ = some (.bool o5) ∧ w'.cell? ⟨X5, 1, none⟩ = some (.pointer q5)) (exact ⟨⟨b2.c0, b2.c1⟩, b4.c0, b4.c1, b5.c0, b5.c1⟩)
      (first
        | (go_at_call 53; (with_reducible refine Calls.mono (Weight_at _ HT.out H4.out hdE hd4 htE HXA.out HYA.out) ?_); rintro e wn ⟨rfl, hkk⟩; have hb := hb.trans (hkk.mono hb.size); have b2 := b2.below hkk; have b4 := b4.below hkk; have b5 := b5.below hkk; have HT := Lib.hid (HT.out.below hkk); have H4 := Lib.hid (H4.out.below hkk); have H5 := Lib.hid (H5.out.below hkk); clear hkk)
        | (go_at_call 53; (with_reducible refine Calls.mono (Weight_at _ HT.out H5.out hdE hd5 htE HXB.out HYB.out) ?_); rintro e wn ⟨rfl, hkk⟩; have hb := hb.trans (hkk.mono hb.size); have b2 := b2.below hkk; have b4 := b4.below hkk; have b5 := b5.below hkk; have HT := Lib.hid (HT.out.below hkk); have H4 := Lib.hid (H4.out.below hkk); have H5 := Lib.hid (H5.out.below hkk); clear hkk))
    go_wp2_with ((go_at_call 47; (with_reducible refine Calls.mono (is_at _ hw0 HIC.out) ?_); rintro e wn ⟨rfl, hkk⟩; have hb := hb.trans (hkk.mono hb.size); clear hkk))
    go_ret
    exact ⟨by trivial, hb⟩

end Go.Proofs.Ytigkjmfkpmehlaa
