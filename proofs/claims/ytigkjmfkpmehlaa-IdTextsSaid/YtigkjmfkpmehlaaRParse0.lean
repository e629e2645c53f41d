/- kinfolkref01.parse, Parse. (Printed by wip/ids/rparse.py.) -/
import Derived.Test.YtigkjmfkpmehlaaHalvesWalk
namespace Go.Proofs.Ytigkjmfkpmehlaa
open Go.RowKit

/-- What the document's parse comes to. -/
def rp : Nat → List UInt8 → T × List UInt8 × Bool
  | 0, l => (.z, l, false)
  | f + 1, l =>
    if (tk 48 l).2 = true then (.z, (tk 48 l).1, true)
    else if (tk 49 l).2 = true then (.o, (tk 49 l).1, true)
    else if (tk 40 l).2 = true then
      let r1 := rp f (tk 40 l).1
      if r1.2.2 = true ∧ (tk 44 r1.2.1).2 = true then
        let r2 := rp f (tk 44 r1.2.1).1
        if r2.2.2 = true ∧ (tk 41 r2.2.1).2 = true ∧ (T.pair r1.1 r2.1).isN = true then (T.pair r1.1 r2.1, (tk 41 r2.2.1).1, true) else (.z, r2.2.1, false)
      else (.z, r1.2.1, false)
    else (.z, l, false)
/-- The reader goes the same way. -/
theorem rid_rp : ∀ (f : Nat) (l : List UInt8), (rid f l false).2.2 = !(rp f l).2.2 ∧ ((rp f l).2.2 = true → (rid f l false).1 = (rp f l).1 ∧ (rid f l false).2.1 = (rp f l).2.1)
  | 0, l => by simp [rid, rp]
  | f + 1, l => by
    have h1 := rid_rp f (tk 40 l).1
    rw [rid, rp]
    by_cases e0 : (tk 48 l).2 = true
    · rw [if_pos e0, if_pos e0]
      simp
    rw [if_neg e0, if_neg e0]
    by_cases e1 : (tk 49 l).2 = true
    · rw [if_pos e1, if_pos e1]
      simp
    rw [if_neg e1, if_neg e1]
    by_cases e2 : (tk 40 l).2 = true
    · rw [if_pos e2, if_pos e2]
      simp only
      generalize rid f (tk 40 l).1 false = q1 at *
      generalize rp f (tk 40 l).1 = r1 at *
      obtain ⟨a, s1, b1⟩ := q1
      obtain ⟨a', s1', ok1⟩ := r1
      simp only at h1 ⊢
      have hbad : ∀ s, rid f s true = (.z, s, true) := fun s => by cases f <;> rfl
      cases ok1 with
      | false =>
        obtain rfl : b1 = true := by simpa using h1.1
        simp [hbad]
      | true =>
        obtain ⟨rfl, hh⟩ := h1
        obtain ⟨rfl, rfl⟩ := hh rfl
        cases hm : (tk 44 s1).2 with
        | false => simp [hbad]
        | true =>
          have h2 := rid_rp f (tk 44 s1).1
          simp only [Bool.not_true, Bool.false_eq_true, if_false, and_self, if_true]
          generalize rid f (tk 44 s1).1 false = q2 at *
          generalize rp f (tk 44 s1).1 = r2 at *
          obtain ⟨c, s2, b2⟩ := q2
          obtain ⟨c', s2', ok2⟩ := r2
          simp only at h2 ⊢
          cases ok2 with
          | false =>
            obtain rfl : b2 = true := by simpa using h2.1
            simp
          | true =>
            obtain ⟨rfl, hh⟩ := h2
            obtain ⟨rfl, rfl⟩ := hh rfl
            cases hk : (tk 41 s2).2 with
            | false => simp
            | true =>
              cases hN : (T.pair a c).isN with
              | false => simp
              | true => simp
    · rw [if_neg e2, if_neg e2]
      simp
theorem isN_n {a b : T} (h : (T.pair a b).isN = true) : T.pair a b = .n a b := by
  unfold T.pair at h ⊢
  split
  · rename_i hh; rw [if_pos hh] at h; simp [T.isN] at h
  · rename_i hh
    rw [if_neg hh] at h
    split
    · rename_i h2; rw [if_pos h2] at h; simp [T.isN] at h
    · rfl
/-- What is read, is what is written. -/
theorem rp_str : ∀ (f : Nat) (l : List UInt8), (rp f l).2.2 = true → l = (rp f l).1.str ++ (rp f l).2.1
  | 0, l, h => by simp [rp] at h
  | f + 1, l, h => by
    rw [rp] at h ⊢
    by_cases e0 : (tk 48 l).2 = true
    · rw [if_pos e0]
      exact tk_yes e0
    rw [if_neg e0] at h ⊢
    by_cases e1 : (tk 49 l).2 = true
    · rw [if_pos e1]
      exact tk_yes e1
    rw [if_neg e1] at h ⊢
    by_cases e2 : (tk 40 l).2 = true
    · rw [if_pos e2] at h ⊢
      have h1 := rp_str f (tk 40 l).1
      have h0 := tk_yes e2
      simp only at h ⊢
      generalize rp f (tk 40 l).1 = r1 at *
      by_cases c1 : r1.2.2 = true ∧ (tk 44 r1.2.1).2 = true
      · rw [if_pos c1] at h ⊢
        have h2 := rp_str f (tk 44 r1.2.1).1
        have h3 := tk_yes c1.2
        have h1 := h1 c1.1
        generalize rp f (tk 44 r1.2.1).1 = r2 at *
        by_cases c2 : r2.2.2 = true ∧ (tk 41 r2.2.1).2 = true ∧ (T.pair r1.1 r2.1).isN = true
        · rw [if_pos c2]
          have h2 := h2 c2.1
          have h4 := tk_yes c2.2.1
          have h1' : (tk 40 l).1 = r1.1.str ++ (44 :: (tk 44 r1.2.1).1) := by rw [← h3]; exact h1
          have h2' : (tk 44 r1.2.1).1 = r2.1.str ++ (41 :: (tk 41 r2.2.1).1) := by rw [← h4]; exact h2
          simp only
          rw [isN_n c2.2.2]
          exact h0.trans (by rw [h1', h2']; simp [T.str])
        · rw [if_neg c2] at h
          simp at h
      · rw [if_neg c1] at h
        simp at h
    · rw [if_neg e2] at h
      simp at h
def RpOk (f : Nat) (l : List UInt8) : Prop := ∀ (w : World), Calls Try.prog 59 #[.string (bs l)] w fun e w' => ∃ p, e = .returned (.tuple #[p, .string (bs (rp f l).2.1), .bool (rp f l).2.2]) ∧ RV w' (rp f l).1 p ∧ Below w.heap.size w w'
theorem pair_isN_false {a b : T} (h : (T.pair a b).isN = false) : a.kind = b.kind ∧ a.kind < 2 := by
  cases a <;> cases b <;> simp_all [T.pair, T.isZ, T.isO, T.isN, T.kind]
theorem pair_isN_true {a b : T} (h : (T.pair a b).isN = true) : ¬ a.kind = b.kind ∨ (a.kind = b.kind ∧ ¬ a.kind < 2) := by
  cases a <;> cases b <;> simp_all [T.pair, T.isZ, T.isO, T.isN, T.kind]
theorem toNat_beq {x c : UInt8} (h : x ≠ c) : ((x.toNat : Int) == (c.toNat : Int)) = false := by
  have := toNat_bne h
  simpa [bne] using this
theorem toNat_bne2 {x c : UInt8} (h : x ≠ c) : ((x.toNat : Int) != (c.toNat : Int)) = true := toNat_bne h
theorem tk_cons_ne {x c : UInt8} {t : List UInt8} (h : x ≠ c) : (tk c (x :: t)).2 = false := by simp [tk, h]
theorem tk_cons_eq (c : UInt8) (t : List UInt8) : tk c (c :: t) = (t, true) := by simp [tk]

set_option maxRecDepth 100000 in
set_option maxHeartbeats 1600000 in
theorem rp_nil (f : Nat) : RpOk (f + 1) [] := by
  intro w
  have HE := Lib.hid (show rp (f + 1) ([]) = (.z, [], false) by simp [rp, tk])
  rw [HE.out]
  have hz0 : (bs []).size = 0 := rfl
  have hzb0 : (((bs []).size : Int) == 0) = true := rfl
  have hb := Below.refl w.heap.size w
  go_enter Try.func59, Try.ntmps59
  go_wp2_with (go_at_call 36; refine Calls.mono (rzero_any _) ?_; rintro e wn ⟨p, rfl, hv, hkk⟩; have hb := hb.trans (hkk.mono hb.size); (try have HA := Lib.hid (HA.out.below hkk)); (try have HC := Lib.hid (HC.out.below hkk)); (try have na := na.below hkk); (try have nc := nc.below hkk); have HV := Lib.hid hv; clear hv hkk)
  obtain ⟨g, _, _, rfl, _⟩ := HV.out.shape
  exact bodyPost_ret (v := .tuple #[.pointer (some ⟨g, 0, none⟩), .string (bs ([])), .bool false]) (by simp [results, go_sem, *]) rfl ⟨_, rfl, HV.out, hb⟩

set_option maxRecDepth 100000 in
set_option maxHeartbeats 1600000 in
theorem rp_48 (f : Nat) (t : List UInt8) : RpOk (f + 1) (48 :: t) := by
  intro w
  have HE := Lib.hid (show rp (f + 1) (48 :: t) = (.z, t, true) by simp [rp, tk])
  rw [HE.out]
  have hp0 : 0 < (bs (48 :: t)).size := by rw [bs_size]; simp
  have hx0 : (bs (48 :: t))[0] = (48 : UInt8) := rfl
  have hz0 : ¬ (bs (48 :: t)).size = 0 := by rw [bs_size]; simp
  have hy0 : (1 : Int) ≤ ((bs (48 :: t)).size : Int) := by rw [bs_size]; simp; omega
  have hyn0 : 1 ≤ (bs (48 :: t)).size := by rw [bs_size]; simp
  have hzb0 : (((bs (48 :: t)).size : Int) == 0) = false := by rw [bs_size]; simp; omega
  have hzd0 : decide (((bs (48 :: t)).size : Int) = 0) = false := by rw [bs_size]; simp; omega
  have he0 : (bs (48 :: t)).extract 1 (bs (48 :: t)).size = bs (t) := bs_extract _ _
  have a1 : (((48 : UInt8).toNat : Int) == 48) = true := by decide
  have hb := Below.refl w.heap.size w
  go_enter Try.func59, Try.ntmps59
  go_upto_region 4 with (fail)
  have hb := bdrew hb
  go_region_held3 (fun _ => True) (exact trivial)
    (first | (go_at_call 36; refine Calls.mono (rzero_any _) ?_; rintro e wn ⟨p, rfl, hv, hkk⟩; have hb := hb.trans (hkk.mono hb.size); (try have HA := Lib.hid (HA.out.below hkk)); (try have HC := Lib.hid (HC.out.below hkk)); (try have na := na.below hkk); (try have nc := nc.below hkk); have HV := Lib.hid hv; clear hv hkk))
  all_goals
    go_wp2_with fail
    obtain ⟨g, _, _, rfl, _⟩ := HV.out.shape
    exact bodyPost_ret (v := .tuple #[.pointer (some ⟨g, 0, none⟩), .string (bs (t)), .bool true]) (by simp [results, go_sem, *]) rfl ⟨_, rfl, HV.out, hb⟩

set_option maxRecDepth 100000 in
set_option maxHeartbeats 1600000 in
theorem rp_49 (f : Nat) (t : List UInt8) : RpOk (f + 1) (49 :: t) := by
  intro w
  have HE := Lib.hid (show rp (f + 1) (49 :: t) = (.o, t, true) by simp [rp, tk])
  rw [HE.out]
  have hp0 : 0 < (bs (49 :: t)).size := by rw [bs_size]; simp
  have hx0 : (bs (49 :: t))[0] = (49 : UInt8) := rfl
  have hz0 : ¬ (bs (49 :: t)).size = 0 := by rw [bs_size]; simp
  have hy0 : (1 : Int) ≤ ((bs (49 :: t)).size : Int) := by rw [bs_size]; simp; omega
  have hyn0 : 1 ≤ (bs (49 :: t)).size := by rw [bs_size]; simp
  have hzb0 : (((bs (49 :: t)).size : Int) == 0) = false := by rw [bs_size]; simp; omega
  have hzd0 : decide (((bs (49 :: t)).size : Int) = 0) = false := by rw [bs_size]; simp; omega
  have he0 : (bs (49 :: t)).extract 1 (bs (49 :: t)).size = bs (t) := bs_extract _ _
  have a1 : (((49 : UInt8).toNat : Int) == 48) = false := by decide
  have a2 : (((49 : UInt8).toNat : Int) == 49) = true := by decide
  have hb := Below.refl w.heap.size w
  go_enter Try.func59, Try.ntmps59
  go_upto_region 6 with (fail)
  have hb := bdrew hb
  go_region_held3 (fun _ => True) (exact trivial)
    (first | (go_at_call 64; refine Calls.mono (rone_any _) ?_; rintro e wn ⟨p, rfl, hv, hkk⟩; have hb := hb.trans (hkk.mono hb.size); (try have HA := Lib.hid (HA.out.below hkk)); (try have HC := Lib.hid (HC.out.below hkk)); (try have na := na.below hkk); (try have nc := nc.below hkk); have HV := Lib.hid hv; clear hv hkk))
  all_goals
    go_wp2_with fail
    obtain ⟨g, _, _, rfl, _⟩ := HV.out.shape
    exact bodyPost_ret (v := .tuple #[.pointer (some ⟨g, 0, none⟩), .string (bs (t)), .bool true]) (by simp [results, go_sem, *]) rfl ⟨_, rfl, HV.out, hb⟩

set_option maxRecDepth 100000 in
set_option maxHeartbeats 1600000 in
theorem rp_x (f : Nat) (x : UInt8) (t : List UInt8) (n0 : x ≠ 48) (n1 : x ≠ 49) (n2 : x ≠ 40) : RpOk (f + 1) (x :: t) := by
  intro w
  have HE := Lib.hid (show rp (f + 1) (x :: t) = (.z, x :: t, false) by rw [rp, if_neg (by rw [tk_cons_ne n0]; exact Bool.false_ne_true), if_neg (by rw [tk_cons_ne n1]; exact Bool.false_ne_true), if_neg (by rw [tk_cons_ne n2]; exact Bool.false_ne_true)])
  rw [HE.out]
  have hp0 : 0 < (bs (x :: t)).size := by rw [bs_size]; simp
  have hx0 : (bs (x :: t))[0] = x := rfl
  have hz0 : ¬ (bs (x :: t)).size = 0 := by rw [bs_size]; simp
  have hy0 : (1 : Int) ≤ ((bs (x :: t)).size : Int) := by rw [bs_size]; simp; omega
  have hyn0 : 1 ≤ (bs (x :: t)).size := by rw [bs_size]; simp
  have hzb0 : (((bs (x :: t)).size : Int) == 0) = false := by rw [bs_size]; simp; omega
  have hzd0 : decide (((bs (x :: t)).size : Int) = 0) = false := by rw [bs_size]; simp; omega
  have he0 : (bs (x :: t)).extract 1 (bs (x :: t)).size = bs (t) := bs_extract _ _
  have hn0 : ((x.toNat : Int) == 48) = false := toNat_beq n0
  have hm0 : ((x.toNat : Int) != 48) = true := toNat_bne2 n0
  have hn1 : ((x.toNat : Int) == 49) = false := toNat_beq n1
  have hm1 : ((x.toNat : Int) != 49) = true := toNat_bne2 n1
  have hn2 : ((x.toNat : Int) == 40) = false := toNat_beq n2
  have hm2 : ((x.toNat : Int) != 40) = true := toNat_bne2 n2
  have hb := Below.refl w.heap.size w
  go_enter Try.func59, Try.ntmps59
  go_wp2_with (go_at_call 36; refine Calls.mono (rzero_any _) ?_; rintro e wn ⟨p, rfl, hv, hkk⟩; have hb := hb.trans (hkk.mono hb.size); (try have HA := Lib.hid (HA.out.below hkk)); (try have HC := Lib.hid (HC.out.below hkk)); (try have na := na.below hkk); (try have nc := nc.below hkk); have HV := Lib.hid hv; clear hv hkk)
  obtain ⟨g, _, _, rfl, _⟩ := HV.out.shape
  exact bodyPost_ret (v := .tuple #[.pointer (some ⟨g, 0, none⟩), .string (bs (x :: t)), .bool false]) (by simp [results, go_sem, *]) rfl ⟨_, rfl, HV.out, hb⟩

set_option maxRecDepth 100000 in
set_option maxHeartbeats 1600000 in
theorem rp_A (f : Nat) (t : List UInt8) (tA : T) (lA : List UInt8) (h1 : rp f t = (tA, lA, false)) (i1 : RpOk f t) : RpOk (f + 1) (40 :: t) := by
  intro w
  have HE := Lib.hid (show rp (f + 1) (40 :: t) = (.z, lA, false) by rw [rp, if_neg (by simp [tk]), if_neg (by simp [tk]), if_pos (by simp [tk])]; simp [tk, h1])
  rw [HE.out]
  have i1 := i1
  unfold RpOk at i1
  rw [h1] at i1
  have I1 := Lib.hid i1
  clear i1
  have hp0 : 0 < (bs (40 :: t)).size := by rw [bs_size]; simp
  have hx0 : (bs (40 :: t))[0] = (40 : UInt8) := rfl
  have hz0 : ¬ (bs (40 :: t)).size = 0 := by rw [bs_size]; simp
  have hy0 : (1 : Int) ≤ ((bs (40 :: t)).size : Int) := by rw [bs_size]; simp; omega
  have hyn0 : 1 ≤ (bs (40 :: t)).size := by rw [bs_size]; simp
  have hzb0 : (((bs (40 :: t)).size : Int) == 0) = false := by rw [bs_size]; simp; omega
  have hzd0 : decide (((bs (40 :: t)).size : Int) = 0) = false := by rw [bs_size]; simp; omega
  have he0 : (bs (40 :: t)).extract 1 (bs (40 :: t)).size = bs (t) := bs_extract _ _
  have a1 : (((40 : UInt8).toNat : Int) == 48) = false := by decide
  have a2 : (((40 : UInt8).toNat : Int) == 49) = false := by decide
  have a3 : (((40 : UInt8).toNat : Int) != 40) = false := by decide
  clear h1
  have hb := Below.refl w.heap.size w
  go_enter Try.func59, Try.ntmps59
  go_wp2_with (first
    | (go_at_call 36; refine Calls.mono (rzero_any _) ?_; rintro e wn ⟨p, rfl, hv, hkk⟩; have hb := hb.trans (hkk.mono hb.size); (try have HA := Lib.hid (HA.out.below hkk)); (try have HC := Lib.hid (HC.out.below hkk)); (try have na := na.below hkk); (try have nc := nc.below hkk); have HV := Lib.hid hv; clear hv hkk)
    | (go_at_call 59; (with_reducible refine Calls.mono (I1.out _) ?_; rintro e wn ⟨pA, rfl, hv, hkk⟩; have hb := hb.trans (hkk.mono hb.size); (try have HA := Lib.hid (HA.out.below hkk)); (try have HC := Lib.hid (HC.out.below hkk)); (try have na := na.below hkk); (try have nc := nc.below hkk); have HA := Lib.hid hv; clear hv hkk)))
  obtain ⟨g, _, _, rfl, _⟩ := HV.out.shape
  exact bodyPost_ret (v := .tuple #[.pointer (some ⟨g, 0, none⟩), .string (bs (lA)), .bool false]) (by simp [results, go_sem, *]) rfl ⟨_, rfl, HV.out, hb⟩

set_option maxRecDepth 100000 in
set_option maxHeartbeats 1600000 in
theorem rp_B (f : Nat) (t : List UInt8) (tA : T) (_lA : List UInt8) (h1 : rp f t = (tA, [], true)) (i1 : RpOk f t) : RpOk (f + 1) (40 :: t) := by
  intro w
  have HE := Lib.hid (show rp (f + 1) (40 :: t) = (.z, [], false) by rw [rp, if_neg (by simp [tk]), if_neg (by simp [tk]), if_pos (by simp [tk])]; simp [tk, h1])
  rw [HE.out]
  have i1 := i1
  unfold RpOk at i1
  rw [h1] at i1
  have I1 := Lib.hid i1
  clear i1
  have hp0 : 0 < (bs (40 :: t)).size := by rw [bs_size]; simp
  have hx0 : (bs (40 :: t))[0] = (40 : UInt8) := rfl
  have hz0 : ¬ (bs (40 :: t)).size = 0 := by rw [bs_size]; simp
  have hy0 : (1 : Int) ≤ ((bs (40 :: t)).size : Int) := by rw [bs_size]; simp; omega
  have hyn0 : 1 ≤ (bs (40 :: t)).size := by rw [bs_size]; simp
  have hzb0 : (((bs (40 :: t)).size : Int) == 0) = false := by rw [bs_size]; simp; omega
  have hzd0 : decide (((bs (40 :: t)).size : Int) = 0) = false := by rw [bs_size]; simp; omega
  have he0 : (bs (40 :: t)).extract 1 (bs (40 :: t)).size = bs (t) := bs_extract _ _
  have a1 : (((40 : UInt8).toNat : Int) == 48) = false := by decide
  have a2 : (((40 : UInt8).toNat : Int) == 49) = false := by decide
  have a3 : (((40 : UInt8).toNat : Int) != 40) = false := by decide
  have hz1 : (bs []).size = 0 := rfl
  have hzb1 : (((bs []).size : Int) == 0) = true := rfl
  clear h1
  have hb := Below.refl w.heap.size w
  go_enter Try.func59, Try.ntmps59
  go_wp2_with (first
    | (go_at_call 36; refine Calls.mono (rzero_any _) ?_; rintro e wn ⟨p, rfl, hv, hkk⟩; have hb := hb.trans (hkk.mono hb.size); (try have HA := Lib.hid (HA.out.below hkk)); (try have HC := Lib.hid (HC.out.below hkk)); (try have na := na.below hkk); (try have nc := nc.below hkk); have HV := Lib.hid hv; clear hv hkk)
    | (go_at_call 59; (with_reducible refine Calls.mono (I1.out _) ?_; rintro e wn ⟨pA, rfl, hv, hkk⟩; have hb := hb.trans (hkk.mono hb.size); (try have HA := Lib.hid (HA.out.below hkk)); (try have HC := Lib.hid (HC.out.below hkk)); (try have na := na.below hkk); (try have nc := nc.below hkk); have HA := Lib.hid hv; clear hv hkk)))
  obtain ⟨g, _, _, rfl, _⟩ := HV.out.shape
  exact bodyPost_ret (v := .tuple #[.pointer (some ⟨g, 0, none⟩), .string (bs ([])), .bool false]) (by simp [results, go_sem, *]) rfl ⟨_, rfl, HV.out, hb⟩

set_option maxRecDepth 100000 in
set_option maxHeartbeats 1600000 in
theorem rp_C (f : Nat) (t : List UInt8) (tA : T) (lA : List UInt8) (y : UInt8) (ny : y ≠ 44) (h1 : rp f t = (tA, y :: lA, true)) (i1 : RpOk f t) : RpOk (f + 1) (40 :: t) := by
  intro w
  have HE := Lib.hid (show rp (f + 1) (40 :: t) = (.z, y :: lA, false) by rw [rp, if_neg (by simp [tk]), if_neg (by simp [tk]), if_pos (by simp [tk])]; simp [tk, h1, ny])
  rw [HE.out]
  have i1 := i1
  unfold RpOk at i1
  rw [h1] at i1
  have I1 := Lib.hid i1
  clear i1
  have hp0 : 0 < (bs (40 :: t)).size := by rw [bs_size]; simp
  have hx0 : (bs (40 :: t))[0] = (40 : UInt8) := rfl
  have hz0 : ¬ (bs (40 :: t)).size = 0 := by rw [bs_size]; simp
  have hy0 : (1 : Int) ≤ ((bs (40 :: t)).size : Int) := by rw [bs_size]; simp; omega
  have hyn0 : 1 ≤ (bs (40 :: t)).size := by rw [bs_size]; simp
  have hzb0 : (((bs (40 :: t)).size : Int) == 0) = false := by rw [bs_size]; simp; omega
  have hzd0 : decide (((bs (40 :: t)).size : Int) = 0) = false := by rw [bs_size]; simp; omega
  have he0 : (bs (40 :: t)).extract 1 (bs (40 :: t)).size = bs (t) := bs_extract _ _
  have a1 : (((40 : UInt8).toNat : Int) == 48) = false := by decide
  have a2 : (((40 : UInt8).toNat : Int) == 49) = false := by decide
  have a3 : (((40 : UInt8).toNat : Int) != 40) = false := by decide
  have hp1 : 0 < (bs (y :: lA)).size := by rw [bs_size]; simp
  have hx1 : (bs (y :: lA))[0] = y := rfl
  have hz1 : ¬ (bs (y :: lA)).size = 0 := by rw [bs_size]; simp
  have hy1 : (1 : Int) ≤ ((bs (y :: lA)).size : Int) := by rw [bs_size]; simp; omega
  have hyn1 : 1 ≤ (bs (y :: lA)).size := by rw [bs_size]; simp
  have hzb1 : (((bs (y :: lA)).size : Int) == 0) = false := by rw [bs_size]; simp; omega
  have hzd1 : decide (((bs (y :: lA)).size : Int) = 0) = false := by rw [bs_size]; simp; omega
  have he1 : (bs (y :: lA)).extract 1 (bs (y :: lA)).size = bs (lA) := bs_extract _ _
  have hny : ((y.toNat : Int) == 44) = false := toNat_beq ny
  have hmy : ((y.toNat : Int) != 44) = true := toNat_bne2 ny
  clear h1
  have hb := Below.refl w.heap.size w
  go_enter Try.func59, Try.ntmps59
  go_wp2_with (first
    | (go_at_call 36; refine Calls.mono (rzero_any _) ?_; rintro e wn ⟨p, rfl, hv, hkk⟩; have hb := hb.trans (hkk.mono hb.size); (try have HA := Lib.hid (HA.out.below hkk)); (try have HC := Lib.hid (HC.out.below hkk)); (try have na := na.below hkk); (try have nc := nc.below hkk); have HV := Lib.hid hv; clear hv hkk)
    | (go_at_call 59; (with_reducible refine Calls.mono (I1.out _) ?_; rintro e wn ⟨pA, rfl, hv, hkk⟩; have hb := hb.trans (hkk.mono hb.size); (try have HA := Lib.hid (HA.out.below hkk)); (try have HC := Lib.hid (HC.out.below hkk)); (try have na := na.below hkk); (try have nc := nc.below hkk); have HA := Lib.hid hv; clear hv hkk)))
  obtain ⟨g, _, _, rfl, _⟩ := HV.out.shape
  exact bodyPost_ret (v := .tuple #[.pointer (some ⟨g, 0, none⟩), .string (bs (y :: lA)), .bool false]) (by simp [results, go_sem, *]) rfl ⟨_, rfl, HV.out, hb⟩
end Go.Proofs.Ytigkjmfkpmehlaa
