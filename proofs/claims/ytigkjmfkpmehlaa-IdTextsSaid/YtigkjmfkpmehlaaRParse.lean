/- kinfolkref01.parse: a pair; Parse. (Printed by wip/ids/rparse.py.) -/
import Derived.Test.YtigkjmfkpmehlaaRParse0
namespace Go.Proofs.Ytigkjmfkpmehlaa
open Go.RowKit

set_option maxRecDepth 100000 in
set_option maxHeartbeats 1600000 in
theorem rp_D1 (f : Nat) (t : List UInt8) (tA tC : T) (lA lC : List UInt8) (h1 : rp f t = (tA, 44 :: lA, true)) (h2 : rp f lA = (tC, lC, false)) (i1 : RpOk f t) (i2 : RpOk f lA) : RpOk (f + 1) (40 :: t) := by
  intro w
  have HE := Lib.hid (show rp (f + 1) (40 :: t) = (.z, lC, false) by rw [rp, if_neg (by simp [tk]), if_neg (by simp [tk]), if_pos (by simp [tk])]; simp [tk, h1, h2])
  rw [HE.out]
  have i1 := i1
  unfold RpOk at i1
  rw [h1] at i1
  have I1 := Lib.hid i1
  clear i1
  have i2 := i2
  unfold RpOk at i2
  rw [h2] at i2
  have I2 := Lib.hid i2
  clear i2
  have hp0 : 0 < (bs (40 :: t)).size := by rw [bs_size]; simp
  have hx0 : (bs (40 :: t))[0] = (40 : UInt8) := rfl
  have hz0 : ¬ (bs (40 :: t)).size = 0 := by rw [bs_size]; simp
  have hy0 : (1 : Int) ≤ ((bs (40 :: t)).size : Int) := by rw [bs_size]; simp; omega
  have hyn0 : 1 ≤ (bs (40 :: t)).size := by rw [bs_size]; simp
  have hzb0 : (((bs (40 :: t)).size : Int) == 0) = false := by rw [bs_size]; simp; omega
  have hzd0 : decide (((bs (40 :: t)).size : Int) = 0) = false := by rw [bs_size]; simp; omega
  have he0 : (bs (40 :: t)).extract 1 (bs (40 :: t)).size = bs (t) := bs_extract _ _
  have a1 : (((40 : UInt8).toNat : Int) == 48) = false := by decide
  have a2 : (((40 : UInt8).toNat : Int) == 49) = false := by decide
  have a3 : (((40 : UInt8).toNat : Int) != 40) = false := by decide
  have hp1 : 0 < (bs (44 :: lA)).size := by rw [bs_size]; simp
  have hx1 : (bs (44 :: lA))[0] = (44 : UInt8) := rfl
  have hz1 : ¬ (bs (44 :: lA)).size = 0 := by rw [bs_size]; simp
  have hy1 : (1 : Int) ≤ ((bs (44 :: lA)).size : Int) := by rw [bs_size]; simp; omega
  have hyn1 : 1 ≤ (bs (44 :: lA)).size := by rw [bs_size]; simp
  have hzb1 : (((bs (44 :: lA)).size : Int) == 0) = false := by rw [bs_size]; simp; omega
  have hzd1 : decide (((bs (44 :: lA)).size : Int) = 0) = false := by rw [bs_size]; simp; omega
  have he1 : (bs (44 :: lA)).extract 1 (bs (44 :: lA)).size = bs (lA) := bs_extract _ _
  have a4 : (((44 : UInt8).toNat : Int) != 44) = false := by decide
  clear h1 h2
  have hb := Below.refl w.heap.size w
  go_enter Try.func59, Try.ntmps59
  go_upto_region 13 with (go_at_call 59; first
        | (with_reducible refine Calls.mono (I1.out _) ?_; rintro e wn ⟨pA, rfl, hv, hkk⟩; have hb := hb.trans (hkk.mono hb.size); (try have HA := Lib.hid (HA.out.below hkk)); (try have HC := Lib.hid (HC.out.below hkk)); (try have na := na.below hkk); (try have nc := nc.below hkk); have HA := Lib.hid hv; clear hv hkk)
        | (with_reducible refine Calls.mono (I2.out _) ?_; rintro e wn ⟨pC, rfl, hv, hkk⟩; have hb := hb.trans (hkk.mono hb.size); (try have HA := Lib.hid (HA.out.below hkk)); (try have HC := Lib.hid (HC.out.below hkk)); (try have na := na.below hkk); (try have nc := nc.below hkk); have HC := Lib.hid hv; clear hv hkk))
  go_quiet (fail)
  have hb := bdrewN hb nq
  have HA := Lib.hid (RV.below (w := wn) (w' := wn.drewN nq) (bdrewN (Below.refl _ _) nq) HA.out)
  have HC := Lib.hid (RV.below (w := wn) (w' := wn.drewN nq) (bdrewN (Below.refl _ _) nq) HC.out)
  go_wp2_with (go_at_call 36; refine Calls.mono (rzero_any _) ?_; rintro e wn ⟨p, rfl, hv, hkk⟩; have hb := hb.trans (hkk.mono hb.size); (try have HA := Lib.hid (HA.out.below hkk)); (try have HC := Lib.hid (HC.out.below hkk)); (try have na := na.below hkk); (try have nc := nc.below hkk); have HV := Lib.hid hv; clear hv hkk)
  obtain ⟨g, _, _, rfl, _⟩ := HV.out.shape
  exact bodyPost_ret (v := .tuple #[.pointer (some ⟨g, 0, none⟩), .string (bs (lC)), .bool false]) (by simp [results, go_sem, *]) rfl ⟨_, rfl, HV.out, hb⟩

set_option maxRecDepth 100000 in
set_option maxHeartbeats 1600000 in
theorem rp_D2 (f : Nat) (t : List UInt8) (tA tC : T) (lA _lC : List UInt8) (h1 : rp f t = (tA, 44 :: lA, true)) (h2 : rp f lA = (tC, [], true)) (i1 : RpOk f t) (i2 : RpOk f lA) : RpOk (f + 1) (40 :: t) := by
  intro w
  have HE := Lib.hid (show rp (f + 1) (40 :: t) = (.z, [], false) by rw [rp, if_neg (by simp [tk]), if_neg (by simp [tk]), if_pos (by simp [tk])]; simp [tk, h1, h2])
  rw [HE.out]
  have i1 := i1
  unfold RpOk at i1
  rw [h1] at i1
  have I1 := Lib.hid i1
  clear i1
  have i2 := i2
  unfold RpOk at i2
  rw [h2] at i2
  have I2 := Lib.hid i2
  clear i2
  have hp0 : 0 < (bs (40 :: t)).size := by rw [bs_size]; simp
  have hx0 : (bs (40 :: t))[0] = (40 : UInt8) := rfl
  have hz0 : ¬ (bs (40 :: t)).size = 0 := by rw [bs_size]; simp
  have hy0 : (1 : Int) ≤ ((bs (40 :: t)).size : Int) := by rw [bs_size]; simp; omega
  have hyn0 : 1 ≤ (bs (40 :: t)).size := by rw [bs_size]; simp
  have hzb0 : (((bs (40 :: t)).size : Int) == 0) = false := by rw [bs_size]; simp; omega
  have hzd0 : decide (((bs (40 :: t)).size : Int) = 0) = false := by rw [bs_size]; simp; omega
  have he0 : (bs (40 :: t)).extract 1 (bs (40 :: t)).size = bs (t) := bs_extract _ _
  have a1 : (((40 : UInt8).toNat : Int) == 48) = false := by decide
  have a2 : (((40 : UInt8).toNat : Int) == 49) = false := by decide
  have a3 : (((40 : UInt8).toNat : Int) != 40) = false := by decide
  have hp1 : 0 < (bs (44 :: lA)).size := by rw [bs_size]; simp
  have hx1 : (bs (44 :: lA))[0] = (44 : UInt8) := rfl
  have hz1 : ¬ (bs (44 :: lA)).size = 0 := by rw [bs_size]; simp
  have hy1 : (1 : Int) ≤ ((bs (44 :: lA)).size : Int) := by rw [bs_size]; simp; omega
  have hyn1 : 1 ≤ (bs (44 :: lA)).size := by rw [bs_size]; simp
  have hzb1 : (((bs (44 :: lA)).size : Int) == 0) = false := by rw [bs_size]; simp; omega
  have hzd1 : decide (((bs (44 :: lA)).size : Int) = 0) = false := by rw [bs_size]; simp; omega
  have he1 : (bs (44 :: lA)).extract 1 (bs (44 :: lA)).size = bs (lA) := bs_extract _ _
  have a4 : (((44 : UInt8).toNat : Int) != 44) = false := by decide
  have hz2 : (bs []).size = 0 := rfl
  have hzb2 : (((bs []).size : Int) == 0) = true := rfl
  clear h1 h2
  have hb := Below.refl w.heap.size w
  go_enter Try.func59, Try.ntmps59
  go_upto_region 13 with (go_at_call 59; first
        | (with_reducible refine Calls.mono (I1.out _) ?_; rintro e wn ⟨pA, rfl, hv, hkk⟩; have hb := hb.trans (hkk.mono hb.size); (try have HA := Lib.hid (HA.out.below hkk)); (try have HC := Lib.hid (HC.out.below hkk)); (try have na := na.below hkk); (try have nc := nc.below hkk); have HA := Lib.hid hv; clear hv hkk)
        | (with_reducible refine Calls.mono (I2.out _) ?_; rintro e wn ⟨pC, rfl, hv, hkk⟩; have hb := hb.trans (hkk.mono hb.size); (try have HA := Lib.hid (HA.out.below hkk)); (try have HC := Lib.hid (HC.out.below hkk)); (try have na := na.below hkk); (try have nc := nc.below hkk); have HC := Lib.hid hv; clear hv hkk))
  go_quiet (fail)
  have hb := bdrewN hb nq
  have HA := Lib.hid (RV.below (w := wn) (w' := wn.drewN nq) (bdrewN (Below.refl _ _) nq) HA.out)
  have HC := Lib.hid (RV.below (w := wn) (w' := wn.drewN nq) (bdrewN (Below.refl _ _) nq) HC.out)
  go_wp2_with (go_at_call 36; refine Calls.mono (rzero_any _) ?_; rintro e wn ⟨p, rfl, hv, hkk⟩; have hb := hb.trans (hkk.mono hb.size); (try have HA := Lib.hid (HA.out.below hkk)); (try have HC := Lib.hid (HC.out.below hkk)); (try have na := na.below hkk); (try have nc := nc.below hkk); have HV := Lib.hid hv; clear hv hkk)
  obtain ⟨g, _, _, rfl, _⟩ := HV.out.shape
  exact bodyPost_ret (v := .tuple #[.pointer (some ⟨g, 0, none⟩), .string (bs ([])), .bool false]) (by simp [results, go_sem, *]) rfl ⟨_, rfl, HV.out, hb⟩

set_option maxRecDepth 100000 in
set_option maxHeartbeats 1600000 in
theorem rp_D3 (f : Nat) (t : List UInt8) (tA tC : T) (lA lC : List UInt8) (y : UInt8) (ny : y ≠ 41) (h1 : rp f t = (tA, 44 :: lA, true)) (h2 : rp f lA = (tC, y :: lC, true)) (i1 : RpOk f t) (i2 : RpOk f lA) : RpOk (f + 1) (40 :: t) := by
  intro w
  have HE := Lib.hid (show rp (f + 1) (40 :: t) = (.z, y :: lC, false) by rw [rp, if_neg (by simp [tk]), if_neg (by simp [tk]), if_pos (by simp [tk])]; simp [tk, h1, h2, ny])
  rw [HE.out]
  have i1 := i1
  unfold RpOk at i1
  rw [h1] at i1
  have I1 := Lib.hid i1
  clear i1
  have i2 := i2
  unfold RpOk at i2
  rw [h2] at i2
  have I2 := Lib.hid i2
  clear i2
  have hp0 : 0 < (bs (40 :: t)).size := by rw [bs_size]; simp
  have hx0 : (bs (40 :: t))[0] = (40 : UInt8) := rfl
  have hz0 : ¬ (bs (40 :: t)).size = 0 := by rw [bs_size]; simp
  have hy0 : (1 : Int) ≤ ((bs (40 :: t)).size : Int) := by rw [bs_size]; simp; omega
  have hyn0 : 1 ≤ (bs (40 :: t)).size := by rw [bs_size]; simp
  have hzb0 : (((bs (40 :: t)).size : Int) == 0) = false := by rw [bs_size]; simp; omega
  have hzd0 : decide (((bs (40 :: t)).size : Int) = 0) = false := by rw [bs_size]; simp; omega
  have he0 : (bs (40 :: t)).extract 1 (bs (40 :: t)).size = bs (t) := bs_extract _ _
  have a1 : (((40 : UInt8).toNat : Int) == 48) = false := by decide
  have a2 : (((40 : UInt8).toNat : Int) == 49) = false := by decide
  have a3 : (((40 : UInt8).toNat : Int) != 40) = false := by decide
  have hp1 : 0 < (bs (44 :: lA)).size := by rw [bs_size]; simp
  have hx1 : (bs (44 :: lA))[0] = (44 : UInt8) := rfl
  have hz1 : ¬ (bs (44 :: lA)).size = 0 := by rw [bs_size]; simp
  have hy1 : (1 : Int) ≤ ((bs (44 :: lA)).size : Int) := by rw [bs_size]; simp; omega
  have hyn1 : 1 ≤ (bs (44 :: lA)).size := by rw [bs_size]; simp
  have hzb1 : (((bs (44 :: lA)).size : Int) == 0) = false := by rw [bs_size]; simp; omega
  have hzd1 : decide (((bs (44 :: lA)).size : Int) = 0) = false := by rw [bs_size]; simp; omega
  have he1 : (bs (44 :: lA)).extract 1 (bs (44 :: lA)).size = bs (lA) := bs_extract _ _
  have a4 : (((44 : UInt8).toNat : Int) != 44) = false := by decide
  have hp2 : 0 < (bs (y :: lC)).size := by rw [bs_size]; simp
  have hx2 : (bs (y :: lC))[0] = y := rfl
  have hz2 : ¬ (bs (y :: lC)).size = 0 := by rw [bs_size]; simp
  have hy2 : (1 : Int) ≤ ((bs (y :: lC)).size : Int) := by rw [bs_size]; simp; omega
  have hyn2 : 1 ≤ (bs (y :: lC)).size := by rw [bs_size]; simp
  have hzb2 : (((bs (y :: lC)).size : Int) == 0) = false := by rw [bs_size]; simp; omega
  have hzd2 : decide (((bs (y :: lC)).size : Int) = 0) = false := by rw [bs_size]; simp; omega
  have he2 : (bs (y :: lC)).extract 1 (bs (y :: lC)).size = bs (lC) := bs_extract _ _
  have hny : ((y.toNat : Int) == 41) = false := toNat_beq ny
  have hmy : ((y.toNat : Int) != 41) = true := toNat_bne2 ny
  clear h1 h2
  have hb := Below.refl w.heap.size w
  go_enter Try.func59, Try.ntmps59
  go_upto_region 13 with (go_at_call 59; first
        | (with_reducible refine Calls.mono (I1.out _) ?_; rintro e wn ⟨pA, rfl, hv, hkk⟩; have hb := hb.trans (hkk.mono hb.size); (try have HA := Lib.hid (HA.out.below hkk)); (try have HC := Lib.hid (HC.out.below hkk)); (try have na := na.below hkk); (try have nc := nc.below hkk); have HA := Lib.hid hv; clear hv hkk)
        | (with_reducible refine Calls.mono (I2.out _) ?_; rintro e wn ⟨pC, rfl, hv, hkk⟩; have hb := hb.trans (hkk.mono hb.size); (try have HA := Lib.hid (HA.out.below hkk)); (try have HC := Lib.hid (HC.out.below hkk)); (try have na := na.below hkk); (try have nc := nc.below hkk); have HC := Lib.hid hv; clear hv hkk))
  go_quiet (fail)
  have hb := bdrewN hb nq
  have HA := Lib.hid (RV.below (w := wn) (w' := wn.drewN nq) (bdrewN (Below.refl _ _) nq) HA.out)
  have HC := Lib.hid (RV.below (w := wn) (w' := wn.drewN nq) (bdrewN (Below.refl _ _) nq) HC.out)
  go_wp2_with (go_at_call 36; refine Calls.mono (rzero_any _) ?_; rintro e wn ⟨p, rfl, hv, hkk⟩; have hb := hb.trans (hkk.mono hb.size); (try have HA := Lib.hid (HA.out.below hkk)); (try have HC := Lib.hid (HC.out.below hkk)); (try have na := na.below hkk); (try have nc := nc.below hkk); have HV := Lib.hid hv; clear hv hkk)
  obtain ⟨g, _, _, rfl, _⟩ := HV.out.shape
  exact bodyPost_ret (v := .tuple #[.pointer (some ⟨g, 0, none⟩), .string (bs (y :: lC)), .bool false]) (by simp [results, go_sem, *]) rfl ⟨_, rfl, HV.out, hb⟩

set_option maxRecDepth 100000 in
set_option maxHeartbeats 1600000 in
theorem rp_D4 (f : Nat) (t : List UInt8) (tA tC : T) (lA lC : List UInt8) (h1 : rp f t = (tA, 44 :: lA, true)) (h2 : rp f lA = (tC, 41 :: lC, true)) (hN : (T.pair tA tC).isN = false) (i1 : RpOk f t) (i2 : RpOk f lA) : RpOk (f + 1) (40 :: t) := by
  intro w
  have HE := Lib.hid (show rp (f + 1) (40 :: t) = (.z, 41 :: lC, false) by rw [rp, if_neg (by simp [tk]), if_neg (by simp [tk]), if_pos (by simp [tk])]; simp [tk, h1, h2, hN])
  rw [HE.out]
  have i1 := i1
  unfold RpOk at i1
  rw [h1] at i1
  have I1 := Lib.hid i1
  clear i1
  have i2 := i2
  unfold RpOk at i2
  rw [h2] at i2
  have I2 := Lib.hid i2
  clear i2
  have hp0 : 0 < (bs (40 :: t)).size := by rw [bs_size]; simp
  have hx0 : (bs (40 :: t))[0] = (40 : UInt8) := rfl
  have hz0 : ¬ (bs (40 :: t)).size = 0 := by rw [bs_size]; simp
  have hy0 : (1 : Int) ≤ ((bs (40 :: t)).size : Int) := by rw [bs_size]; simp; omega
  have hyn0 : 1 ≤ (bs (40 :: t)).size := by rw [bs_size]; simp
  have hzb0 : (((bs (40 :: t)).size : Int) == 0) = false := by rw [bs_size]; simp; omega
  have hzd0 : decide (((bs (40 :: t)).size : Int) = 0) = false := by rw [bs_size]; simp; omega
  have he0 : (bs (40 :: t)).extract 1 (bs (40 :: t)).size = bs (t) := bs_extract _ _
  have a1 : (((40 : UInt8).toNat : Int) == 48) = false := by decide
  have a2 : (((40 : UInt8).toNat : Int) == 49) = false := by decide
  have a3 : (((40 : UInt8).toNat : Int) != 40) = false := by decide
  have hp1 : 0 < (bs (44 :: lA)).size := by rw [bs_size]; simp
  have hx1 : (bs (44 :: lA))[0] = (44 : UInt8) := rfl
  have hz1 : ¬ (bs (44 :: lA)).size = 0 := by rw [bs_size]; simp
  have hy1 : (1 : Int) ≤ ((bs (44 :: lA)).size : Int) := by rw [bs_size]; simp; omega
  have hyn1 : 1 ≤ (bs (44 :: lA)).size := by rw [bs_size]; simp
  have hzb1 : (((bs (44 :: lA)).size : Int) == 0) = false := by rw [bs_size]; simp; omega
  have hzd1 : decide (((bs (44 :: lA)).size : Int) = 0) = false := by rw [bs_size]; simp; omega
  have he1 : (bs (44 :: lA)).extract 1 (bs (44 :: lA)).size = bs (lA) := bs_extract _ _
  have a4 : (((44 : UInt8).toNat : Int) != 44) = false := by decide
  have hp2 : 0 < (bs (41 :: lC)).size := by rw [bs_size]; simp
  have hx2 : (bs (41 :: lC))[0] = (41 : UInt8) := rfl
  have hz2 : ¬ (bs (41 :: lC)).size = 0 := by rw [bs_size]; simp
  have hy2 : (1 : Int) ≤ ((bs (41 :: lC)).size : Int) := by rw [bs_size]; simp; omega
  have hyn2 : 1 ≤ (bs (41 :: lC)).size := by rw [bs_size]; simp
  have hzb2 : (((bs (41 :: lC)).size : Int) == 0) = false := by rw [bs_size]; simp; omega
  have hzd2 : decide (((bs (41 :: lC)).size : Int) = 0) = false := by rw [bs_size]; simp; omega
  have he2 : (bs (41 :: lC)).extract 1 (bs (41 :: lC)).size = bs (lC) := bs_extract _ _
  have a5 : (((41 : UInt8).toNat : Int) != 41) = false := by decide
  obtain ⟨hk1, hk2⟩ := pair_isN_false hN
  clear hN
  clear h1 h2
  have hb := Below.refl w.heap.size w
  go_enter Try.func59, Try.ntmps59
  go_upto_region 13 with (go_at_call 59; first
        | (with_reducible refine Calls.mono (I1.out _) ?_; rintro e wn ⟨pA, rfl, hv, hkk⟩; have hb := hb.trans (hkk.mono hb.size); (try have HA := Lib.hid (HA.out.below hkk)); (try have HC := Lib.hid (HC.out.below hkk)); (try have na := na.below hkk); (try have nc := nc.below hkk); have HA := Lib.hid hv; clear hv hkk)
        | (with_reducible refine Calls.mono (I2.out _) ?_; rintro e wn ⟨pC, rfl, hv, hkk⟩; have hb := hb.trans (hkk.mono hb.size); (try have HA := Lib.hid (HA.out.below hkk)); (try have HC := Lib.hid (HC.out.below hkk)); (try have na := na.below hkk); (try have nc := nc.below hkk); have HC := Lib.hid hv; clear hv hkk))
  obtain ⟨ba, al, ar, rfl, na⟩ := HA.out.shape
  obtain ⟨bc, cl, cr, rfl, nc⟩ := HC.out.shape
  have na0 := na.c0
  have nc0 := nc.c0
  rw [← hk1] at nc0
  go_quiet (fail)
  have hb := bdrewN hb nq
  have HA := Lib.hid (RV.below (w := wn) (w' := wn.drewN nq) (bdrewN (Below.refl _ _) nq) HA.out)
  have HC := Lib.hid (RV.below (w := wn) (w' := wn.drewN nq) (bdrewN (Below.refl _ _) nq) HC.out)
  go_wp2_with (go_at_call 36; refine Calls.mono (rzero_any _) ?_; rintro e wn ⟨p, rfl, hv, hkk⟩; have hb := hb.trans (hkk.mono hb.size); (try have HA := Lib.hid (HA.out.below hkk)); (try have HC := Lib.hid (HC.out.below hkk)); (try have na := na.below hkk); (try have nc := nc.below hkk); have HV := Lib.hid hv; clear hv hkk)
  obtain ⟨g, _, _, rfl, _⟩ := HV.out.shape
  exact bodyPost_ret (v := .tuple #[.pointer (some ⟨g, 0, none⟩), .string (bs (41 :: lC)), .bool false]) (by simp [results, go_sem, *]) rfl ⟨_, rfl, HV.out, hb⟩

set_option maxRecDepth 100000 in
set_option maxHeartbeats 1600000 in
theorem rp_D5a (f : Nat) (t : List UInt8) (tA tC : T) (lA lC : List UInt8) (h1 : rp f t = (tA, 44 :: lA, true)) (h2 : rp f lA = (tC, 41 :: lC, true)) (hN : (T.pair tA tC).isN = true) (hk : ¬ tA.kind = tC.kind) (i1 : RpOk f t) (i2 : RpOk f lA) : RpOk (f + 1) (40 :: t) := by
  intro w
  have HE := Lib.hid (show rp (f + 1) (40 :: t) = (T.pair tA tC, lC, true) by rw [rp, if_neg (by simp [tk]), if_neg (by simp [tk]), if_pos (by simp [tk])]; simp [tk, h1, h2, hN])
  rw [HE.out]
  have i1 := i1
  unfold RpOk at i1
  rw [h1] at i1
  have I1 := Lib.hid i1
  clear i1
  have i2 := i2
  unfold RpOk at i2
  rw [h2] at i2
  have I2 := Lib.hid i2
  clear i2
  have hp0 : 0 < (bs (40 :: t)).size := by rw [bs_size]; simp
  have hx0 : (bs (40 :: t))[0] = (40 : UInt8) := rfl
  have hz0 : ¬ (bs (40 :: t)).size = 0 := by rw [bs_size]; simp
  have hy0 : (1 : Int) ≤ ((bs (40 :: t)).size : Int) := by rw [bs_size]; simp; omega
  have hyn0 : 1 ≤ (bs (40 :: t)).size := by rw [bs_size]; simp
  have hzb0 : (((bs (40 :: t)).size : Int) == 0) = false := by rw [bs_size]; simp; omega
  have hzd0 : decide (((bs (40 :: t)).size : Int) = 0) = false := by rw [bs_size]; simp; omega
  have he0 : (bs (40 :: t)).extract 1 (bs (40 :: t)).size = bs (t) := bs_extract _ _
  have a1 : (((40 : UInt8).toNat : Int) == 48) = false := by decide
  have a2 : (((40 : UInt8).toNat : Int) == 49) = false := by decide
  have a3 : (((40 : UInt8).toNat : Int) != 40) = false := by decide
  have hp1 : 0 < (bs (44 :: lA)).size := by rw [bs_size]; simp
  have hx1 : (bs (44 :: lA))[0] = (44 : UInt8) := rfl
  have hz1 : ¬ (bs (44 :: lA)).size = 0 := by rw [bs_size]; simp
  have hy1 : (1 : Int) ≤ ((bs (44 :: lA)).size : Int) := by rw [bs_size]; simp; omega
  have hyn1 : 1 ≤ (bs (44 :: lA)).size := by rw [bs_size]; simp
  have hzb1 : (((bs (44 :: lA)).size : Int) == 0) = false := by rw [bs_size]; simp; omega
  have hzd1 : decide (((bs (44 :: lA)).size : Int) = 0) = false := by rw [bs_size]; simp; omega
  have he1 : (bs (44 :: lA)).extract 1 (bs (44 :: lA)).size = bs (lA) := bs_extract _ _
  have a4 : (((44 : UInt8).toNat : Int) != 44) = false := by decide
  have hp2 : 0 < (bs (41 :: lC)).size := by rw [bs_size]; simp
  have hx2 : (bs (41 :: lC))[0] = (41 : UInt8) := rfl
  have hz2 : ¬ (bs (41 :: lC)).size = 0 := by rw [bs_size]; simp
  have hy2 : (1 : Int) ≤ ((bs (41 :: lC)).size : Int) := by rw [bs_size]; simp; omega
  have hyn2 : 1 ≤ (bs (41 :: lC)).size := by rw [bs_size]; simp
  have hzb2 : (((bs (41 :: lC)).size : Int) == 0) = false := by rw [bs_size]; simp; omega
  have hzd2 : decide (((bs (41 :: lC)).size : Int) = 0) = false := by rw [bs_size]; simp; omega
  have he2 : (bs (41 :: lC)).extract 1 (bs (41 :: lC)).size = bs (lC) := bs_extract _ _
  have a5 : (((41 : UInt8).toNat : Int) != 41) = false := by decide
  have hk3 : (tA.kind == tC.kind) = false := by simpa using hk
  clear hN
  clear h1 h2
  have hb := Below.refl w.heap.size w
  go_enter Try.func59, Try.ntmps59
  go_upto_region 13 with (go_at_call 59; first
        | (with_reducible refine Calls.mono (I1.out _) ?_; rintro e wn ⟨pA, rfl, hv, hkk⟩; have hb := hb.trans (hkk.mono hb.size); (try have HA := Lib.hid (HA.out.below hkk)); (try have HC := Lib.hid (HC.out.below hkk)); (try have na := na.below hkk); (try have nc := nc.below hkk); have HA := Lib.hid hv; clear hv hkk)
        | (with_reducible refine Calls.mono (I2.out _) ?_; rintro e wn ⟨pC, rfl, hv, hkk⟩; have hb := hb.trans (hkk.mono hb.size); (try have HA := Lib.hid (HA.out.below hkk)); (try have HC := Lib.hid (HC.out.below hkk)); (try have na := na.below hkk); (try have nc := nc.below hkk); have HC := Lib.hid hv; clear hv hkk))
  obtain ⟨ba, al, ar, rfl, na⟩ := HA.out.shape
  obtain ⟨bc, cl, cr, rfl, nc⟩ := HC.out.shape
  have na0 := na.c0
  have nc0 := nc.c0
  go_quiet (fail)
  have hb := bdrewN hb nq
  have HA := Lib.hid (RV.below (w := wn) (w' := wn.drewN nq) (bdrewN (Below.refl _ _) nq) HA.out)
  have HC := Lib.hid (RV.below (w := wn) (w' := wn.drewN nq) (bdrewN (Below.refl _ _) nq) HC.out)
  go_upto_region 15 with (fail)
  have hb := bdrew hb
  have HA := Lib.hid HA.out.drew
  have HC := Lib.hid HC.out.drew
  go_region_held3 (fun _ => True) (exact trivial)
    (first | (go_at_call 63; refine Calls.mono (rpair_any _ HA.out HC.out) ?_; rintro e wn ⟨p, rfl, hv, hkk⟩; have hb := hb.trans (hkk.mono hb.size); (try have HA := Lib.hid (HA.out.below hkk)); (try have HC := Lib.hid (HC.out.below hkk)); (try have na := na.below hkk); (try have nc := nc.below hkk); have HV := Lib.hid hv; clear hv hkk))
  all_goals
    go_wp2_with fail
    obtain ⟨g, _, _, rfl, _⟩ := HV.out.shape
    exact bodyPost_ret (v := .tuple #[.pointer (some ⟨g, 0, none⟩), .string (bs (lC)), .bool true]) (by simp [results, go_sem, *]) rfl ⟨_, rfl, HV.out, hb⟩

set_option maxRecDepth 100000 in
set_option maxHeartbeats 1600000 in
theorem rp_D5b (f : Nat) (t : List UInt8) (tA tC : T) (lA lC : List UInt8) (h1 : rp f t = (tA, 44 :: lA, true)) (h2 : rp f lA = (tC, 41 :: lC, true)) (hN : (T.pair tA tC).isN = true) (hk : tA.kind = tC.kind ∧ ¬ tA.kind < 2) (i1 : RpOk f t) (i2 : RpOk f lA) : RpOk (f + 1) (40 :: t) := by
  intro w
  have HE := Lib.hid (show rp (f + 1) (40 :: t) = (T.pair tA tC, lC, true) by rw [rp, if_neg (by simp [tk]), if_neg (by simp [tk]), if_pos (by simp [tk])]; simp [tk, h1, h2, hN])
  rw [HE.out]
  have i1 := i1
  unfold RpOk at i1
  rw [h1] at i1
  have I1 := Lib.hid i1
  clear i1
  have i2 := i2
  unfold RpOk at i2
  rw [h2] at i2
  have I2 := Lib.hid i2
  clear i2
  have hp0 : 0 < (bs (40 :: t)).size := by rw [bs_size]; simp
  have hx0 : (bs (40 :: t))[0] = (40 : UInt8) := rfl
  have hz0 : ¬ (bs (40 :: t)).size = 0 := by rw [bs_size]; simp
  have hy0 : (1 : Int) ≤ ((bs (40 :: t)).size : Int) := by rw [bs_size]; simp; omega
  have hyn0 : 1 ≤ (bs (40 :: t)).size := by rw [bs_size]; simp
  have hzb0 : (((bs (40 :: t)).size : Int) == 0) = false := by rw [bs_size]; simp; omega
  have hzd0 : decide (((bs (40 :: t)).size : Int) = 0) = false := by rw [bs_size]; simp; omega
  have he0 : (bs (40 :: t)).extract 1 (bs (40 :: t)).size = bs (t) := bs_extract _ _
  have a1 : (((40 : UInt8).toNat : Int) == 48) = false := by decide
  have a2 : (((40 : UInt8).toNat : Int) == 49) = false := by decide
  have a3 : (((40 : UInt8).toNat : Int) != 40) = false := by decide
  have hp1 : 0 < (bs (44 :: lA)).size := by rw [bs_size]; simp
  have hx1 : (bs (44 :: lA))[0] = (44 : UInt8) := rfl
  have hz1 : ¬ (bs (44 :: lA)).size = 0 := by rw [bs_size]; simp
  have hy1 : (1 : Int) ≤ ((bs (44 :: lA)).size : Int) := by rw [bs_size]; simp; omega
  have hyn1 : 1 ≤ (bs (44 :: lA)).size := by rw [bs_size]; simp
  have hzb1 : (((bs (44 :: lA)).size : Int) == 0) = false := by rw [bs_size]; simp; omega
  have hzd1 : decide (((bs (44 :: lA)).size : Int) = 0) = false := by rw [bs_size]; simp; omega
  have he1 : (bs (44 :: lA)).extract 1 (bs (44 :: lA)).size = bs (lA) := bs_extract _ _
  have a4 : (((44 : UInt8).toNat : Int) != 44) = false := by decide
  have hp2 : 0 < (bs (41 :: lC)).size := by rw [bs_size]; simp
  have hx2 : (bs (41 :: lC))[0] = (41 : UInt8) := rfl
  have hz2 : ¬ (bs (41 :: lC)).size = 0 := by rw [bs_size]; simp
  have hy2 : (1 : Int) ≤ ((bs (41 :: lC)).size : Int) := by rw [bs_size]; simp; omega
  have hyn2 : 1 ≤ (bs (41 :: lC)).size := by rw [bs_size]; simp
  have hzb2 : (((bs (41 :: lC)).size : Int) == 0) = false := by rw [bs_size]; simp; omega
  have hzd2 : decide (((bs (41 :: lC)).size : Int) = 0) = false := by rw [bs_size]; simp; omega
  have he2 : (bs (41 :: lC)).extract 1 (bs (41 :: lC)).size = bs (lC) := bs_extract _ _
  have a5 : (((41 : UInt8).toNat : Int) != 41) = false := by decide
  obtain ⟨hk1, hk2⟩ := hk
  clear hN
  clear h1 h2
  have hb := Below.refl w.heap.size w
  go_enter Try.func59, Try.ntmps59
  go_upto_region 13 with (go_at_call 59; first
        | (with_reducible refine Calls.mono (I1.out _) ?_; rintro e wn ⟨pA, rfl, hv, hkk⟩; have hb := hb.trans (hkk.mono hb.size); (try have HA := Lib.hid (HA.out.below hkk)); (try have HC := Lib.hid (HC.out.below hkk)); (try have na := na.below hkk); (try have nc := nc.below hkk); have HA := Lib.hid hv; clear hv hkk)
        | (with_reducible refine Calls.mono (I2.out _) ?_; rintro e wn ⟨pC, rfl, hv, hkk⟩; have hb := hb.trans (hkk.mono hb.size); (try have HA := Lib.hid (HA.out.below hkk)); (try have HC := Lib.hid (HC.out.below hkk)); (try have na := na.below hkk); (try have nc := nc.below hkk); have HC := Lib.hid hv; clear hv hkk))
  obtain ⟨ba, al, ar, rfl, na⟩ := HA.out.shape
  obtain ⟨bc, cl, cr, rfl, nc⟩ := HC.out.shape
  have na0 := na.c0
  have nc0 := nc.c0
  rw [← hk1] at nc0
  go_quiet (fail)
  have hb := bdrewN hb nq
  have HA := Lib.hid (RV.below (w := wn) (w' := wn.drewN nq) (bdrewN (Below.refl _ _) nq) HA.out)
  have HC := Lib.hid (RV.below (w := wn) (w' := wn.drewN nq) (bdrewN (Below.refl _ _) nq) HC.out)
  go_upto_region 15 with (fail)
  have hb := bdrew hb
  have HA := Lib.hid HA.out.drew
  have HC := Lib.hid HC.out.drew
  go_region_held3 (fun _ => True) (exact trivial)
    (first | (go_at_call 63; refine Calls.mono (rpair_any _ HA.out HC.out) ?_; rintro e wn ⟨p, rfl, hv, hkk⟩; have hb := hb.trans (hkk.mono hb.size); (try have HA := Lib.hid (HA.out.below hkk)); (try have HC := Lib.hid (HC.out.below hkk)); (try have na := na.below hkk); (try have nc := nc.below hkk); have HV := Lib.hid hv; clear hv hkk))
  all_goals
    go_wp2_with fail
    obtain ⟨g, _, _, rfl, _⟩ := HV.out.shape
    exact bodyPost_ret (v := .tuple #[.pointer (some ⟨g, 0, none⟩), .string (bs (lC)), .bool true]) (by simp [results, go_sem, *]) rfl ⟨_, rfl, HV.out, hb⟩

theorem rp_len : ∀ (f : Nat) (l : List UInt8), (rp f l).2.1.length ≤ l.length
  | 0, l => by simp [rp]
  | f + 1, l => by
    rw [rp]
    split
    · exact tk_len _ _
    · split
      · exact tk_len _ _
      · split
        · have h1 := rp_len f (tk 40 l).1
          have h0 := tk_len 40 l
          simp only
          generalize rp f (tk 40 l).1 = r1 at *
          split
          · have h2 := rp_len f (tk 44 r1.2.1).1
            have h3 := tk_len 44 r1.2.1
            generalize rp f (tk 44 r1.2.1).1 = r2 at *
            have h4 := tk_len 41 r2.2.1
            split
            · simp only; omega
            · simp only; omega
          · simp only; omega
        · simp
theorem rp_any : ∀ (f : Nat) (l : List UInt8), l.length < f → RpOk f l
  | 0, _, h => by omega
  | f + 1, [], _ => rp_nil f
  | f + 1, x :: t, h => by
    simp only [List.length_cons] at h
    by_cases n0 : x = 48
    · subst n0; exact rp_48 f t
    by_cases n1 : x = 49
    · subst n1; exact rp_49 f t
    by_cases n2 : x = 40
    · subst n2
      have i1 := rp_any f t (by omega)
      have g1 := rp_len f t
      obtain ⟨⟨tA, lA, ok1⟩, h1⟩ : ∃ r, rp f t = r := ⟨_, rfl⟩
      rw [h1] at g1
      simp only at g1
      cases ok1 with
      | false => exact rp_A f t tA lA h1 i1
      | true =>
        cases lA with
        | nil => exact rp_B f t tA [] h1 i1
        | cons y lA =>
          simp only [List.length_cons] at g1
          by_cases ny : y = 44
          · subst ny
            have i2 := rp_any f lA (by omega)
            obtain ⟨⟨tC, lC, ok2⟩, h2⟩ : ∃ r, rp f lA = r := ⟨_, rfl⟩
            cases ok2 with
            | false => exact rp_D1 f t tA tC lA lC h1 h2 i1 i2
            | true =>
              cases lC with
              | nil => exact rp_D2 f t tA tC lA [] h1 h2 i1 i2
              | cons y lC =>
                by_cases ny : y = 41
                · subst ny
                  cases hN : (T.pair tA tC).isN with
                  | false => exact rp_D4 f t tA tC lA lC h1 h2 hN i1 i2
                  | true =>
                    rcases pair_isN_true hN with hk | hk
                    · exact rp_D5a f t tA tC lA lC h1 h2 hN hk i1 i2
                    · exact rp_D5b f t tA tC lA lC h1 h2 hN hk i1 i2
                · exact rp_D3 f t tA tC lA lC y ny h1 h2 i1 i2
          · exact rp_C f t tA lA y ny h1 i1
    · exact rp_x f x t n0 n1 n2
end Go.Proofs.Ytigkjmfkpmehlaa
