/- id.sum. (Printed by wip/ids/sum.py.) -/
import Derived.Test.YtigkjmfkpmehlaaDisj
namespace Go.Proofs.Ytigkjmfkpmehlaa
open Go.RowKit

def T.sum : T → T → T
  | .z, b => b
  | .o, _ => .o
  | .n a b, .z => .n a b
  | .n _ _, .o => .o
  | .n a b, .n c d => T.pair (a.sum c) (b.sum d)

set_option maxHeartbeats 1600000 in
theorem sum_step {l r l' r' : T} {vl vr : Value} (w : World) (i1 : ∀ (vx vy : Value) (wx : World), IDV wx l vx → IDV wx l' vy → Calls Try.prog 56 #[vx, vy] wx fun e w' => ∃ v, e = .returned v ∧ IDV w' (l.sum l') v ∧ Below wx.heap.size wx w')
    (i2 : ∀ (vx vy : Value) (wx : World), IDV wx r vx → IDV wx r' vy → Calls Try.prog 56 #[vx, vy] wx fun e w' => ∃ v, e = .returned v ∧ IDV w' (r.sum r') v ∧ Below wx.heap.size wx w')
    (hl : IDV w (.n l r) vl) (hr : IDV w (.n l' r') vr) : Calls Try.prog 56 #[vl, vr] w fun e w' => ∃ v, e = .returned v ∧ IDV w' (T.sum (.n l r) (.n l' r')) v ∧ Below w.heap.size w w' := by
  have I1 := Lib.hid i1
  have I2 := Lib.hid i2
  clear i1 i2
  obtain ⟨b, x, px, y, py, rfl, hn, hl1, hl2, _, _⟩ := hl.node
  obtain ⟨c, s, ps, u, pu, rfl, hm, hr1, hr2, _, _⟩ := hr.node
  have HL1 := Lib.hid hl1
  have HL2 := Lib.hid hl2
  have HR1 := Lib.hid hr1
  have HR2 := Lib.hid hr2
  have HL := Lib.hid hl
  have HR := Lib.hid hr
  have HN := Lib.hid hn
  have HM := Lib.hid hm
  clear hl hr hl1 hl2 hr1 hr2 hn hm
  have b1 := ((Bx.new w false (some ⟨b, 0, none⟩)).alloc (.cells #[.bool false, .pointer (some ⟨c, 0, none⟩)] 31)).alloc (.cells #[.bool false, .pointer none] 31)
  have b2 := (Bx.new (w.alloc (.cells #[.bool false, .pointer (some ⟨b, 0, none⟩)] 31)) false (some ⟨c, 0, none⟩)).alloc (.cells #[.bool false, .pointer none] 31)
  have b3 := Bx.new ((w.alloc (.cells #[.bool false, .pointer (some ⟨b, 0, none⟩)] 31)).alloc (.cells #[.bool false, .pointer (some ⟨c, 0, none⟩)] 31)) false none
  have hb := ((bel0 w (.cells #[.bool false, .pointer (some ⟨b, 0, none⟩)] 31)).alloc (by simp only [asz]; omega) (.cells #[.bool false, .pointer (some ⟨c, 0, none⟩)] 31)).alloc (by simp only [asz]; omega) (.cells #[.bool false, .pointer none] 31)
  simp only [asz] at b2 b3
  go_enter Try.func56, Try.ntmps56
  go_wp2_with fail
  generalize ((w.alloc (.cells #[.bool false, .pointer (some ⟨b, 0, none⟩)] 31)).alloc (.cells #[.bool false, .pointer (some ⟨c, 0, none⟩)] 31)).alloc (.cells #[.bool false, .pointer none] 31) = w3 at *
  obtain ⟨B, hB⟩ : ∃ B, w.heap.size = B := ⟨_, rfl⟩
  rw [hB] at b1 b2 b3 ⊢
  obtain ⟨C, hC⟩ : ∃ C, B + 1 + 1 = C := ⟨_, rfl⟩
  rw [hC] at b3 ⊢
  obtain ⟨D, hD⟩ : ∃ D, B + 1 = D := ⟨_, rfl⟩
  rw [hD] at b2 ⊢
  have c10 := b1.c0
  have c11 := b1.c1
  have f10 := b1.f0
  have f11 := b1.f1
  have n1 := b1.ne
  have l1 := b1.lt
  have c20 := b2.c0
  have c21 := b2.c1
  have f20 := b2.f0
  have f21 := b2.f1
  have n2 := b2.ne
  have l2 := b2.lt
  have c30 := b3.c0
  have c31 := b3.c1
  have f30 := b3.f0
  have f31 := b3.f1
  have n3 := b3.ne
  have l3 := b3.lt
  go_upto_region 5 with (first
    | (go_at_call_of 24 (Value.agg #[Value.bool false, Value.pointer (some ⟨b, 0, none⟩)]); refine (isZero_is _ (HL.out.below hb) (rfl : _ = false)).mono ?_; rintro e wn ⟨rfl, hk⟩; have hb := hb.trans (hk.mono hb.size); have b1 := b1.below hk; have b2 := b2.below hk; have b3 := b3.below hk; have c10 := b1.c0; have c11 := b1.c1; have f10 := b1.f0; have f11 := b1.f1; have n1 := b1.ne; have l1 := b1.lt; have c20 := b2.c0; have c21 := b2.c1; have f20 := b2.f0; have f21 := b2.f1; have n2 := b2.ne; have l2 := b2.lt; have c30 := b3.c0; have c31 := b3.c1; have f30 := b3.f0; have f31 := b3.f1; have n3 := b3.ne; have l3 := b3.lt; clear hk)
    | (go_at_call_of 24 (Value.agg #[Value.bool false, Value.pointer (some ⟨c, 0, none⟩)]); refine (isZero_is _ (HR.out.below hb) (rfl : _ = false)).mono ?_; rintro e wn ⟨rfl, hk⟩; have hb := hb.trans (hk.mono hb.size); have b1 := b1.below hk; have b2 := b2.below hk; have b3 := b3.below hk; have c10 := b1.c0; have c11 := b1.c1; have f10 := b1.f0; have f11 := b1.f1; have n1 := b1.ne; have l1 := b1.lt; have c20 := b2.c0; have c21 := b2.c1; have f20 := b2.f0; have f21 := b2.f1; have n2 := b2.ne; have l2 := b2.lt; have c30 := b3.c0; have c31 := b3.c1; have f30 := b3.f0; have f31 := b3.f1; have n3 := b3.ne; have l3 := b3.lt; clear hk))
  have hn := HN.out.below hb
  have hm := HM.out.below hb
  have hBC : B ≠ C := by omega
  have hDC : D ≠ C := by omega
  have hb := bdrew hb
  have b1 : Bx wn.drew B false (some ⟨b, 0, none⟩) := b1
  have b2 : Bx wn.drew D false (some ⟨c, 0, none⟩) := b2
  have b3 : Bx wn.drew C false none := b3
  have hn : Nd wn.drew b x px y py := hn
  have hm : Nd wn.drew c s ps u pu := hm
  go_region_held3 (fun w' => w'.cell? ⟨B, 1, none⟩ = some (.pointer (some ⟨b, 0, none⟩)) ∧ w'.cell? ⟨D, 1, none⟩ = some (.pointer (some ⟨c, 0, none⟩)) ∧ w'.cell? ⟨b, 0, none⟩ = some (.bool x) ∧ w'.cell? ⟨b, 1, none⟩ = some (.pointer px) ∧ w'.cell? ⟨b, 2, none⟩ = some (.bool y) ∧ w'.cell? ⟨b, 3, none⟩ = some (.pointer py) ∧ w'.cell? ⟨c, 0, none⟩ = some (.bool s) ∧ w'.cell? ⟨c, 1, none⟩ = some (.pointer ps) ∧ w'.cell? ⟨c, 2, none⟩ = some (.bool u) ∧ w'.cell? ⟨c, 3, none⟩ = some (.pointer pu)) (first | exact ⟨b1.c1, b2.c1, hn.c0, hn.c1, hn.c2, hn.c3, hm.c0, hm.c1, hm.c2, hm.c3⟩ | exact ⟨(b1.far hBC o3 q3).c1, (b2.far hDC o3 q3).c1, (hn.kp (Kp.put b3 o3 q3)).c0, (hn.kp (Kp.put b3 o3 q3)).c1, (hn.kp (Kp.put b3 o3 q3)).c2, (hn.kp (Kp.put b3 o3 q3)).c3, (hm.kp (Kp.put b3 o3 q3)).c0, (hm.kp (Kp.put b3 o3 q3)).c1, (hm.kp (Kp.put b3 o3 q3)).c2, (hm.kp (Kp.put b3 o3 q3)).c3⟩)
    (first
      | (go_at_call_of 56 (Value.agg #[Value.bool x, Value.pointer px]); refine Calls.mono (I1.out _ _ _ (HL1.out.below hb) (HR1.out.below hb)) ?_; rintro e wn ⟨v1, rfl, hv1, hk⟩; obtain ⟨o1, q1, rfl, ho1⟩ := hv1.shape'; have HV1 := Lib.hid hv1; clear hv1; have hb := hb.trans (hk.mono hb.size); have b1 := b1.below hk; have b2 := b2.below hk; have b3 := b3.below hk; have hn := hn.below hk; have hm := hm.below hk; clear hk)
      | (go_at_call_of 56 (Value.agg #[Value.bool y, Value.pointer py]); refine Calls.mono (I2.out _ _ _ (HL2.out.below hb) (HR2.out.below hb)) ?_; rintro e wn ⟨v2, rfl, hv2, hk⟩; obtain ⟨o2, q2, rfl, ho2⟩ := hv2.shape'; have HV2 := Lib.hid hv2; have HV1 := Lib.hid (HV1.out.below hk); clear hv2; have hb := hb.trans (hk.mono hb.size); have b1 := b1.below hk; have b2 := b2.below hk; have b3 := b3.below hk; have hn := hn.below hk; have hm := hm.below hk; clear hk)
      | (go_at_call 57; refine Calls.mono (pair_any _ HV1.out HV2.out) ?_; rintro e wn ⟨v3, rfl, hv3, hk⟩; obtain ⟨o3, q3, rfl, ho3⟩ := hv3.shape'; have HV3 := Lib.hid hv3; clear hv3; have hb := hb.trans (hk.mono hb.size); have b1 := b1.below hk; have b2 := b2.below hk; have b3 := b3.below hk; have hn := hn.below hk; have hm := hm.below hk; clear hk; have c30 := b3.c0; have c31 := b3.c1; have f30 := b3.f0; have f31 := b3.f1))
  have hf := bput hb (R := C) (by omega) o3 q3
  go_wp2_with fail
  exact bodyPost_ret (v := .agg #[.bool o3, .pointer q3]) (by simp [results, go_sem, *]) rfl ⟨_, rfl, HV3.out.kp (Kp.put b3 o3 q3), hf⟩

set_option maxHeartbeats 800000 in
theorem sum_any : ∀ {a b : T} {vl vr : Value} (w : World), a.disj b = true → IDV w a vl → IDV w b vr → Calls Try.prog 56 #[vl, vr] w fun e w' => ∃ v, e = .returned v ∧ IDV w' (a.sum b) v ∧ Below w.heap.size w w'
  | .z, b, vl, vr, w, _, hl, hr => by
    obtain ⟨oa, pl, rfl, hol⟩ := hl.shape'
    obtain ⟨ob, pr, rfl, hor⟩ := hr.shape'
    obtain rfl : oa = false := hol.symm
    have HL := Lib.hid hl
    have HR := Lib.hid hr
    clear hl hr
    have b1 := ((Bx.new w false pl).alloc (.cells #[.bool ob, .pointer pr] 31)).alloc (.cells #[.bool false, .pointer none] 31)
    have b2 := (Bx.new (w.alloc (.cells #[.bool false, .pointer pl] 31)) ob pr).alloc (.cells #[.bool false, .pointer none] 31)
    have b3 := Bx.new ((w.alloc (.cells #[.bool false, .pointer pl] 31)).alloc (.cells #[.bool ob, .pointer pr] 31)) false none
    have hb := ((bel0 w (.cells #[.bool false, .pointer pl] 31)).alloc (by simp only [asz]; omega) (.cells #[.bool ob, .pointer pr] 31)).alloc (by simp only [asz]; omega) (.cells #[.bool false, .pointer none] 31)
    simp only [asz] at b2 b3
    go_enter Try.func56, Try.ntmps56
    go_wp2_with fail
    generalize ((w.alloc (.cells #[.bool false, .pointer pl] 31)).alloc (.cells #[.bool ob, .pointer pr] 31)).alloc (.cells #[.bool false, .pointer none] 31) = w3 at *
    obtain ⟨B, hB⟩ : ∃ B, w.heap.size = B := ⟨_, rfl⟩
    rw [hB] at b1 b2 b3 ⊢
    obtain ⟨C, hC⟩ : ∃ C, B + 1 + 1 = C := ⟨_, rfl⟩
    rw [hC] at b3 ⊢
    obtain ⟨D, hD⟩ : ∃ D, B + 1 = D := ⟨_, rfl⟩
    rw [hD] at b2 ⊢
    have c10 := b1.c0
    have c11 := b1.c1
    have f10 := b1.f0
    have f11 := b1.f1
    have n1 := b1.ne
    have l1 := b1.lt
    have c20 := b2.c0
    have c21 := b2.c1
    have f20 := b2.f0
    have f21 := b2.f1
    have n2 := b2.ne
    have l2 := b2.lt
    have c30 := b3.c0
    have c31 := b3.c1
    have f30 := b3.f0
    have f31 := b3.f1
    have n3 := b3.ne
    have l3 := b3.lt
    go_wp2_with (first
      | (go_at_call_of 24 (Value.agg #[Value.bool false, Value.pointer pl]); refine (isZero_is _ (HL.out.below hb) (rfl : _ = true)).mono ?_; rintro e wn ⟨rfl, hk⟩; have hb := hb.trans (hk.mono hb.size); have b1 := b1.below hk; have b2 := b2.below hk; have b3 := b3.below hk; have c10 := b1.c0; have c11 := b1.c1; have f10 := b1.f0; have f11 := b1.f1; have n1 := b1.ne; have l1 := b1.lt; have c20 := b2.c0; have c21 := b2.c1; have f20 := b2.f0; have f21 := b2.f1; have n2 := b2.ne; have l2 := b2.lt; have c30 := b3.c0; have c31 := b3.c1; have f30 := b3.f0; have f31 := b3.f1; have n3 := b3.ne; have l3 := b3.lt; clear hk))
    have hf := bput hb (R := C) (by omega) ob pr
    exact bodyPost_ret (v := .agg #[.bool ob, .pointer pr]) (by simp [results, go_sem, *]) rfl ⟨_, rfl, (HR.out.below hb).kp (Kp.put b3 ob pr), hf⟩
  | .o, .z, vl, vr, w, _, hl, hr => by
    obtain ⟨oa, pl, rfl, hol⟩ := hl.shape'
    obtain ⟨ob, pr, rfl, hor⟩ := hr.shape'
    obtain rfl : oa = true := hol.symm
    obtain rfl : ob = false := hor.symm
    have HL := Lib.hid hl
    have HR := Lib.hid hr
    clear hl hr
    have b1 := ((Bx.new w true pl).alloc (.cells #[.bool false, .pointer pr] 31)).alloc (.cells #[.bool false, .pointer none] 31)
    have b2 := (Bx.new (w.alloc (.cells #[.bool true, .pointer pl] 31)) false pr).alloc (.cells #[.bool false, .pointer none] 31)
    have b3 := Bx.new ((w.alloc (.cells #[.bool true, .pointer pl] 31)).alloc (.cells #[.bool false, .pointer pr] 31)) false none
    have hb := ((bel0 w (.cells #[.bool true, .pointer pl] 31)).alloc (by simp only [asz]; omega) (.cells #[.bool false, .pointer pr] 31)).alloc (by simp only [asz]; omega) (.cells #[.bool false, .pointer none] 31)
    simp only [asz] at b2 b3
    go_enter Try.func56, Try.ntmps56
    go_wp2_with fail
    generalize ((w.alloc (.cells #[.bool true, .pointer pl] 31)).alloc (.cells #[.bool false, .pointer pr] 31)).alloc (.cells #[.bool false, .pointer none] 31) = w3 at *
    obtain ⟨B, hB⟩ : ∃ B, w.heap.size = B := ⟨_, rfl⟩
    rw [hB] at b1 b2 b3 ⊢
    obtain ⟨C, hC⟩ : ∃ C, B + 1 + 1 = C := ⟨_, rfl⟩
    rw [hC] at b3 ⊢
    obtain ⟨D, hD⟩ : ∃ D, B + 1 = D := ⟨_, rfl⟩
    rw [hD] at b2 ⊢
    have c10 := b1.c0
    have c11 := b1.c1
    have f10 := b1.f0
    have f11 := b1.f1
    have n1 := b1.ne
    have l1 := b1.lt
    have c20 := b2.c0
    have c21 := b2.c1
    have f20 := b2.f0
    have f21 := b2.f1
    have n2 := b2.ne
    have l2 := b2.lt
    have c30 := b3.c0
    have c31 := b3.c1
    have f30 := b3.f0
    have f31 := b3.f1
    have n3 := b3.ne
    have l3 := b3.lt
    go_wp2_with (first
      | (go_at_call_of 24 (Value.agg #[Value.bool true, Value.pointer pl]); refine (isZero_is _ (HL.out.below hb) (rfl : _ = false)).mono ?_; rintro e wn ⟨rfl, hk⟩; have hb := hb.trans (hk.mono hb.size); have b1 := b1.below hk; have b2 := b2.below hk; have b3 := b3.below hk; have c10 := b1.c0; have c11 := b1.c1; have f10 := b1.f0; have f11 := b1.f1; have n1 := b1.ne; have l1 := b1.lt; have c20 := b2.c0; have c21 := b2.c1; have f20 := b2.f0; have f21 := b2.f1; have n2 := b2.ne; have l2 := b2.lt; have c30 := b3.c0; have c31 := b3.c1; have f30 := b3.f0; have f31 := b3.f1; have n3 := b3.ne; have l3 := b3.lt; clear hk)
      | (go_at_call_of 24 (Value.agg #[Value.bool false, Value.pointer pr]); refine (isZero_is _ (HR.out.below hb) (rfl : _ = true)).mono ?_; rintro e wn ⟨rfl, hk⟩; have hb := hb.trans (hk.mono hb.size); have b1 := b1.below hk; have b2 := b2.below hk; have b3 := b3.below hk; have c10 := b1.c0; have c11 := b1.c1; have f10 := b1.f0; have f11 := b1.f1; have n1 := b1.ne; have l1 := b1.lt; have c20 := b2.c0; have c21 := b2.c1; have f20 := b2.f0; have f21 := b2.f1; have n2 := b2.ne; have l2 := b2.lt; have c30 := b3.c0; have c31 := b3.c1; have f30 := b3.f0; have f31 := b3.f1; have n3 := b3.ne; have l3 := b3.lt; clear hk))
    have hf := bput hb (R := C) (by omega) true pl
    exact bodyPost_ret (v := .agg #[.bool true, .pointer pl]) (by simp [results, go_sem, *]) rfl ⟨_, rfl, (HL.out.below hb).kp (Kp.put b3 true pl), hf⟩
  | .n l r, .z, vl, vr, w, _, hl, hr => by
    obtain ⟨oa, pl, rfl, hol⟩ := hl.shape'
    obtain ⟨ob, pr, rfl, hor⟩ := hr.shape'
    obtain rfl : oa = false := hol.symm
    obtain rfl : ob = false := hor.symm
    have HL := Lib.hid hl
    have HR := Lib.hid hr
    clear hl hr
    have b1 := ((Bx.new w false pl).alloc (.cells #[.bool false, .pointer pr] 31)).alloc (.cells #[.bool false, .pointer none] 31)
    have b2 := (Bx.new (w.alloc (.cells #[.bool false, .pointer pl] 31)) false pr).alloc (.cells #[.bool false, .pointer none] 31)
    have b3 := Bx.new ((w.alloc (.cells #[.bool false, .pointer pl] 31)).alloc (.cells #[.bool false, .pointer pr] 31)) false none
    have hb := ((bel0 w (.cells #[.bool false, .pointer pl] 31)).alloc (by simp only [asz]; omega) (.cells #[.bool false, .pointer pr] 31)).alloc (by simp only [asz]; omega) (.cells #[.bool false, .pointer none] 31)
    simp only [asz] at b2 b3
    go_enter Try.func56, Try.ntmps56
    go_wp2_with fail
    generalize ((w.alloc (.cells #[.bool false, .pointer pl] 31)).alloc (.cells #[.bool false, .pointer pr] 31)).alloc (.cells #[.bool false, .pointer none] 31) = w3 at *
    obtain ⟨B, hB⟩ : ∃ B, w.heap.size = B := ⟨_, rfl⟩
    rw [hB] at b1 b2 b3 ⊢
    obtain ⟨C, hC⟩ : ∃ C, B + 1 + 1 = C := ⟨_, rfl⟩
    rw [hC] at b3 ⊢
    obtain ⟨D, hD⟩ : ∃ D, B + 1 = D := ⟨_, rfl⟩
    rw [hD] at b2 ⊢
    have c10 := b1.c0
    have c11 := b1.c1
    have f10 := b1.f0
    have f11 := b1.f1
    have n1 := b1.ne
    have l1 := b1.lt
    have c20 := b2.c0
    have c21 := b2.c1
    have f20 := b2.f0
    have f21 := b2.f1
    have n2 := b2.ne
    have l2 := b2.lt
    have c30 := b3.c0
    have c31 := b3.c1
    have f30 := b3.f0
    have f31 := b3.f1
    have n3 := b3.ne
    have l3 := b3.lt
    go_wp2_with (first
      | (go_at_call_of 24 (Value.agg #[Value.bool false, Value.pointer pl]); refine (isZero_is _ (HL.out.below hb) (rfl : _ = false)).mono ?_; rintro e wn ⟨rfl, hk⟩; have hb := hb.trans (hk.mono hb.size); have b1 := b1.below hk; have b2 := b2.below hk; have b3 := b3.below hk; have c10 := b1.c0; have c11 := b1.c1; have f10 := b1.f0; have f11 := b1.f1; have n1 := b1.ne; have l1 := b1.lt; have c20 := b2.c0; have c21 := b2.c1; have f20 := b2.f0; have f21 := b2.f1; have n2 := b2.ne; have l2 := b2.lt; have c30 := b3.c0; have c31 := b3.c1; have f30 := b3.f0; have f31 := b3.f1; have n3 := b3.ne; have l3 := b3.lt; clear hk)
      | (go_at_call_of 24 (Value.agg #[Value.bool false, Value.pointer pr]); refine (isZero_is _ (HR.out.below hb) (rfl : _ = true)).mono ?_; rintro e wn ⟨rfl, hk⟩; have hb := hb.trans (hk.mono hb.size); have b1 := b1.below hk; have b2 := b2.below hk; have b3 := b3.below hk; have c10 := b1.c0; have c11 := b1.c1; have f10 := b1.f0; have f11 := b1.f1; have n1 := b1.ne; have l1 := b1.lt; have c20 := b2.c0; have c21 := b2.c1; have f20 := b2.f0; have f21 := b2.f1; have n2 := b2.ne; have l2 := b2.lt; have c30 := b3.c0; have c31 := b3.c1; have f30 := b3.f0; have f31 := b3.f1; have n3 := b3.ne; have l3 := b3.lt; clear hk))
    have hf := bput hb (R := C) (by omega) false pl
    exact bodyPost_ret (v := .agg #[.bool false, .pointer pl]) (by simp [results, go_sem, *]) rfl ⟨_, rfl, (HL.out.below hb).kp (Kp.put b3 false pl), hf⟩
  | .n l r, .n l' r', vl, vr, w, hd, hl, hr => sum_step w (fun vx vy wx hx hy => sum_any wx (by simp only [T.disj, Bool.and_eq_true] at hd; exact hd.1) hx hy) (fun vx vy wx hx hy => sum_any wx (by simp only [T.disj, Bool.and_eq_true] at hd; exact hd.2) hx hy) hl hr
  | .o, .o, _, _, _, hd, _, _ => by simp [T.disj] at hd
  | .o, .n _ _, _, _, _, hd, _, _ => by simp [T.disj] at hd
  | .n _ _, .o, _, _, _, hd, _, _ => by simp [T.disj] at hd
end Go.Proofs.Ytigkjmfkpmehlaa
