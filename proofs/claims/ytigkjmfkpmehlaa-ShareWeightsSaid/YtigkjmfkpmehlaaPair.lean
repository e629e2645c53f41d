/- id.pair. (Printed by wip/ids/pair.py.) -/
import Derived.Test.YtigkjmfkpmehlaaTree
namespace Go.Proofs.Ytigkjmfkpmehlaa
open Go.RowKit

set_option maxHeartbeats 1000000 in
theorem pair_any {tl tr : T} {vl vr : Value} (w : World) (hl : IDV w tl vl) (hr : IDV w tr vr) : Calls Try.prog 57 #[vl, vr] w fun e w' => ∃ v, e = .returned v ∧ IDV w' (T.pair tl tr) v ∧ Below w.heap.size w w' := by
  obtain ⟨a, pl, rfl, hol⟩ := hl.shape'
  obtain ⟨b, pr, rfl, hor⟩ := hr.shape'
  have HL := Lib.hid hl
  have HR := Lib.hid hr
  clear hl hr
  cases hzl : tl.isZ with
  | true =>
    obtain rfl : a = false := hol.symm.trans (isO_of_Z hzl)
    cases hzr : tr.isZ with
    | true =>
      obtain rfl : b = false := hor.symm.trans (isO_of_Z hzr)
      have b1 := (Bx.new w false pl).alloc (.cells #[.bool false, .pointer pr] 31) |>.alloc (.cells #[.bool false, .pointer none] 31)
      have b2 := (Bx.new (w.alloc (.cells #[.bool false, .pointer pl] 31)) false pr).alloc (.cells #[.bool false, .pointer none] 31)
      have b3 := Bx.new ((w.alloc (.cells #[.bool false, .pointer pl] 31)).alloc (.cells #[.bool false, .pointer pr] 31)) false none
      have hb := ((bel0 w (.cells #[.bool false, .pointer pl] 31)).alloc (by simp) (.cells #[.bool false, .pointer pr] 31)).alloc (by simp; omega) (.cells #[.bool false, .pointer none] 31)
      simp only [asz] at b2 b3
      go_enter Try.func57, Try.ntmps57
      go_wp2_with fail
      generalize ((w.alloc (.cells #[.bool false, .pointer pl] 31)).alloc (.cells #[.bool false, .pointer pr] 31)).alloc (.cells #[.bool false, .pointer none] 31) = w3 at *
      obtain ⟨B, hB⟩ : ∃ B, w.heap.size = B := ⟨_, rfl⟩
      rw [hB] at b1 b2 b3 ⊢
      obtain ⟨C, hC⟩ : ∃ C, B + 1 + 1 = C := ⟨_, rfl⟩
      obtain ⟨D, hD⟩ : ∃ D, B + 1 = D := ⟨_, rfl⟩
      rw [hC] at b3 ⊢
      rw [hD] at b2 ⊢
      have c10 := b1.c0
      have c11 := b1.c1
      go_wp2_with (first
        | (go_at_call_of 24 (Value.agg #[Value.bool false, Value.pointer pl]); refine (isZero_any _ (HL.out.below hb)).mono ?_; rintro e wn ⟨rfl, hk⟩; have hb := hb.trans (hk.mono hb.size); have b1 := b1.below hk; have b2 := b2.below hk; have b3 := b3.below hk; have c10 := b1.c0; have c11 := b1.c1; have f10 := b1.f0; have f11 := b1.f1; have n1 := b1.ne; have l1 := b1.lt; have c20 := b2.c0; have c21 := b2.c1; have f20 := b2.f0; have f21 := b2.f1; have n2 := b2.ne; have l2 := b2.lt; have c30 := b3.c0; have c31 := b3.c1; have f30 := b3.f0; have f31 := b3.f1; have n3 := b3.ne; have l3 := b3.lt; clear hk)
        | (go_at_call_of 24 (Value.agg #[Value.bool false, Value.pointer pr]); refine (isZero_any _ (HR.out.below hb)).mono ?_; rintro e wn ⟨rfl, hk⟩; have hb := hb.trans (hk.mono hb.size); have b1 := b1.below hk; have b2 := b2.below hk; have b3 := b3.below hk; have c10 := b1.c0; have c11 := b1.c1; have f10 := b1.f0; have f11 := b1.f1; have n1 := b1.ne; have l1 := b1.lt; have c20 := b2.c0; have c21 := b2.c1; have f20 := b2.f0; have f21 := b2.f1; have n2 := b2.ne; have l2 := b2.lt; have c30 := b3.c0; have c31 := b3.c1; have f30 := b3.f0; have f31 := b3.f1; have n3 := b3.ne; have l3 := b3.lt; clear hk)
        | (go_at_call_of 25 (Value.agg #[Value.bool false, Value.pointer pl]); refine (isOne_is _ (HL.out.below hb) hol).mono ?_; rintro e wn ⟨rfl, hk⟩; have hb := hb.trans (hk.mono hb.size); have b1 := b1.below hk; have b2 := b2.below hk; have b3 := b3.below hk; have c10 := b1.c0; have c11 := b1.c1; have f10 := b1.f0; have f11 := b1.f1; have n1 := b1.ne; have l1 := b1.lt; have c20 := b2.c0; have c21 := b2.c1; have f20 := b2.f0; have f21 := b2.f1; have n2 := b2.ne; have l2 := b2.lt; have c30 := b3.c0; have c31 := b3.c1; have f30 := b3.f0; have f31 := b3.f1; have n3 := b3.ne; have l3 := b3.lt; clear hk)
        | (go_at_call_of 25 (Value.agg #[Value.bool false, Value.pointer pr]); refine (isOne_is _ (HR.out.below hb) hor).mono ?_; rintro e wn ⟨rfl, hk⟩; have hb := hb.trans (hk.mono hb.size); have b1 := b1.below hk; have b2 := b2.below hk; have b3 := b3.below hk; have c10 := b1.c0; have c11 := b1.c1; have f10 := b1.f0; have f11 := b1.f1; have n1 := b1.ne; have l1 := b1.lt; have c20 := b2.c0; have c21 := b2.c1; have f20 := b2.f0; have f21 := b2.f1; have n2 := b2.ne; have l2 := b2.lt; have c30 := b3.c0; have c31 := b3.c1; have f30 := b3.f0; have f31 := b3.f1; have n3 := b3.ne; have l3 := b3.lt; clear hk)
        | (go_at_call 21; refine (zero_any _).mono ?_; rintro e wn ⟨v, rfl, rfl, hk⟩; have hb := hb.trans (hk.mono hb.size); have b1 := b1.below hk; have b2 := b2.below hk; have b3 := b3.below hk; have c10 := b1.c0; have c11 := b1.c1; have f10 := b1.f0; have f11 := b1.f1; have n1 := b1.ne; have l1 := b1.lt; have c20 := b2.c0; have c21 := b2.c1; have f20 := b2.f0; have f21 := b2.f1; have n2 := b2.ne; have l2 := b2.lt; have c30 := b3.c0; have c31 := b3.c1; have f30 := b3.f0; have f31 := b3.f1; have n3 := b3.ne; have l3 := b3.lt; clear hk)
        | (go_at_call 18; refine (one_any _).mono ?_; rintro e wn ⟨v, rfl, rfl, hk⟩; have hb := hb.trans (hk.mono hb.size); have b1 := b1.below hk; have b2 := b2.below hk; have b3 := b3.below hk; have c10 := b1.c0; have c11 := b1.c1; have f10 := b1.f0; have f11 := b1.f1; have n1 := b1.ne; have l1 := b1.lt; have c20 := b2.c0; have c21 := b2.c1; have f20 := b2.f0; have f21 := b2.f1; have n2 := b2.ne; have l2 := b2.lt; have c30 := b3.c0; have c31 := b3.c1; have f30 := b3.f0; have f31 := b3.f1; have n3 := b3.ne; have l3 := b3.lt; clear hk))
      exact bodyPost_ret (v := .agg #[.bool false, .pointer none]) (by simp [results, go_sem, *]) rfl ⟨_, rfl, by rw [pair_zz hzl hzr]; rfl, (hb.setCell (by show w.heap.size ≤ C; omega) _).setCell (by show w.heap.size ≤ C; omega) _⟩
    | false =>
      have b1 := (Bx.new w false pl).alloc (.cells #[.bool b, .pointer pr] 31) |>.alloc (.cells #[.bool false, .pointer none] 31)
      have b2 := (Bx.new (w.alloc (.cells #[.bool false, .pointer pl] 31)) b pr).alloc (.cells #[.bool false, .pointer none] 31)
      have b3 := Bx.new ((w.alloc (.cells #[.bool false, .pointer pl] 31)).alloc (.cells #[.bool b, .pointer pr] 31)) false none
      have hb := ((bel0 w (.cells #[.bool false, .pointer pl] 31)).alloc (by simp) (.cells #[.bool b, .pointer pr] 31)).alloc (by simp; omega) (.cells #[.bool false, .pointer none] 31)
      simp only [asz] at b2 b3
      go_enter Try.func57, Try.ntmps57
      go_wp2_with fail
      generalize ((w.alloc (.cells #[.bool false, .pointer pl] 31)).alloc (.cells #[.bool b, .pointer pr] 31)).alloc (.cells #[.bool false, .pointer none] 31) = w3 at *
      obtain ⟨B, hB⟩ : ∃ B, w.heap.size = B := ⟨_, rfl⟩
      rw [hB] at b1 b2 b3 ⊢
      obtain ⟨C, hC⟩ : ∃ C, B + 1 + 1 = C := ⟨_, rfl⟩
      obtain ⟨D, hD⟩ : ∃ D, B + 1 = D := ⟨_, rfl⟩
      rw [hC] at b3 ⊢
      rw [hD] at b2 ⊢
      have c10 := b1.c0
      have c11 := b1.c1
      go_wp2_with (first
        | (go_at_call_of 24 (Value.agg #[Value.bool false, Value.pointer pl]); refine (isZero_any _ (HL.out.below hb)).mono ?_; rintro e wn ⟨rfl, hk⟩; have hb := hb.trans (hk.mono hb.size); have b1 := b1.below hk; have b2 := b2.below hk; have b3 := b3.below hk; have c10 := b1.c0; have c11 := b1.c1; have f10 := b1.f0; have f11 := b1.f1; have n1 := b1.ne; have l1 := b1.lt; have c20 := b2.c0; have c21 := b2.c1; have f20 := b2.f0; have f21 := b2.f1; have n2 := b2.ne; have l2 := b2.lt; have c30 := b3.c0; have c31 := b3.c1; have f30 := b3.f0; have f31 := b3.f1; have n3 := b3.ne; have l3 := b3.lt; clear hk)
        | (go_at_call_of 24 (Value.agg #[Value.bool b, Value.pointer pr]); refine (isZero_any _ (HR.out.below hb)).mono ?_; rintro e wn ⟨rfl, hk⟩; have hb := hb.trans (hk.mono hb.size); have b1 := b1.below hk; have b2 := b2.below hk; have b3 := b3.below hk; have c10 := b1.c0; have c11 := b1.c1; have f10 := b1.f0; have f11 := b1.f1; have n1 := b1.ne; have l1 := b1.lt; have c20 := b2.c0; have c21 := b2.c1; have f20 := b2.f0; have f21 := b2.f1; have n2 := b2.ne; have l2 := b2.lt; have c30 := b3.c0; have c31 := b3.c1; have f30 := b3.f0; have f31 := b3.f1; have n3 := b3.ne; have l3 := b3.lt; clear hk)
        | (go_at_call_of 25 (Value.agg #[Value.bool false, Value.pointer pl]); refine (isOne_is _ (HL.out.below hb) hol).mono ?_; rintro e wn ⟨rfl, hk⟩; have hb := hb.trans (hk.mono hb.size); have b1 := b1.below hk; have b2 := b2.below hk; have b3 := b3.below hk; have c10 := b1.c0; have c11 := b1.c1; have f10 := b1.f0; have f11 := b1.f1; have n1 := b1.ne; have l1 := b1.lt; have c20 := b2.c0; have c21 := b2.c1; have f20 := b2.f0; have f21 := b2.f1; have n2 := b2.ne; have l2 := b2.lt; have c30 := b3.c0; have c31 := b3.c1; have f30 := b3.f0; have f31 := b3.f1; have n3 := b3.ne; have l3 := b3.lt; clear hk)
        | (go_at_call_of 25 (Value.agg #[Value.bool b, Value.pointer pr]); refine (isOne_is _ (HR.out.below hb) hor).mono ?_; rintro e wn ⟨rfl, hk⟩; have hb := hb.trans (hk.mono hb.size); have b1 := b1.below hk; have b2 := b2.below hk; have b3 := b3.below hk; have c10 := b1.c0; have c11 := b1.c1; have f10 := b1.f0; have f11 := b1.f1; have n1 := b1.ne; have l1 := b1.lt; have c20 := b2.c0; have c21 := b2.c1; have f20 := b2.f0; have f21 := b2.f1; have n2 := b2.ne; have l2 := b2.lt; have c30 := b3.c0; have c31 := b3.c1; have f30 := b3.f0; have f31 := b3.f1; have n3 := b3.ne; have l3 := b3.lt; clear hk)
        | (go_at_call 21; refine (zero_any _).mono ?_; rintro e wn ⟨v, rfl, rfl, hk⟩; have hb := hb.trans (hk.mono hb.size); have b1 := b1.below hk; have b2 := b2.below hk; have b3 := b3.below hk; have c10 := b1.c0; have c11 := b1.c1; have f10 := b1.f0; have f11 := b1.f1; have n1 := b1.ne; have l1 := b1.lt; have c20 := b2.c0; have c21 := b2.c1; have f20 := b2.f0; have f21 := b2.f1; have n2 := b2.ne; have l2 := b2.lt; have c30 := b3.c0; have c31 := b3.c1; have f30 := b3.f0; have f31 := b3.f1; have n3 := b3.ne; have l3 := b3.lt; clear hk)
        | (go_at_call 18; refine (one_any _).mono ?_; rintro e wn ⟨v, rfl, rfl, hk⟩; have hb := hb.trans (hk.mono hb.size); have b1 := b1.below hk; have b2 := b2.below hk; have b3 := b3.below hk; have c10 := b1.c0; have c11 := b1.c1; have f10 := b1.f0; have f11 := b1.f1; have n1 := b1.ne; have l1 := b1.lt; have c20 := b2.c0; have c21 := b2.c1; have f20 := b2.f0; have f21 := b2.f1; have n2 := b2.ne; have l2 := b2.lt; have c30 := b3.c0; have c31 := b3.c1; have f30 := b3.f0; have f31 := b3.f1; have n3 := b3.ne; have l3 := b3.lt; clear hk))
      have hs2 := bset (bset hb (R := C) (by omega) 0 (.bool false)) (R := C) (by omega) 1 (.pointer (some ⟨wn.heap.size, 0, none⟩))
      have hbf := hs2.alloc hs2.size (.cells #[.bool false, .pointer pl, .bool b, .pointer pr] 85)
      exact bodyPost_ret (v := .agg #[.bool false, .pointer (some ⟨wn.heap.size, 0, none⟩)]) (by simp [results, go_sem, *]) rfl ⟨_, rfl, by
        rw [pair_n (fun h => by simp [hzr] at h) (fun h => by simp [hol] at h)]
        exact ⟨wn.heap.size, pl, pr, rfl, by rw [hol, hor]; exact new_at (by rw [ssz, ssz]) _, by rw [hol]; exact HL.out.below hbf, by rw [hor]; exact HR.out.below hbf⟩, hbf⟩
  | false =>
    cases a with
    | true =>
      cases b with
      | true =>
        have b1 := (Bx.new w true pl).alloc (.cells #[.bool true, .pointer pr] 31) |>.alloc (.cells #[.bool false, .pointer none] 31)
        have b2 := (Bx.new (w.alloc (.cells #[.bool true, .pointer pl] 31)) true pr).alloc (.cells #[.bool false, .pointer none] 31)
        have b3 := Bx.new ((w.alloc (.cells #[.bool true, .pointer pl] 31)).alloc (.cells #[.bool true, .pointer pr] 31)) false none
        have hb := ((bel0 w (.cells #[.bool true, .pointer pl] 31)).alloc (by simp) (.cells #[.bool true, .pointer pr] 31)).alloc (by simp; omega) (.cells #[.bool false, .pointer none] 31)
        simp only [asz] at b2 b3
        go_enter Try.func57, Try.ntmps57
        go_wp2_with fail
        generalize ((w.alloc (.cells #[.bool true, .pointer pl] 31)).alloc (.cells #[.bool true, .pointer pr] 31)).alloc (.cells #[.bool false, .pointer none] 31) = w3 at *
        obtain ⟨B, hB⟩ : ∃ B, w.heap.size = B := ⟨_, rfl⟩
        rw [hB] at b1 b2 b3 ⊢
        obtain ⟨C, hC⟩ : ∃ C, B + 1 + 1 = C := ⟨_, rfl⟩
        obtain ⟨D, hD⟩ : ∃ D, B + 1 = D := ⟨_, rfl⟩
        rw [hC] at b3 ⊢
        rw [hD] at b2 ⊢
        have c10 := b1.c0
        have c11 := b1.c1
        go_wp2_with (first
          | (go_at_call_of 24 (Value.agg #[Value.bool true, Value.pointer pl]); refine (isZero_any _ (HL.out.below hb)).mono ?_; rintro e wn ⟨rfl, hk⟩; have hb := hb.trans (hk.mono hb.size); have b1 := b1.below hk; have b2 := b2.below hk; have b3 := b3.below hk; have c10 := b1.c0; have c11 := b1.c1; have f10 := b1.f0; have f11 := b1.f1; have n1 := b1.ne; have l1 := b1.lt; have c20 := b2.c0; have c21 := b2.c1; have f20 := b2.f0; have f21 := b2.f1; have n2 := b2.ne; have l2 := b2.lt; have c30 := b3.c0; have c31 := b3.c1; have f30 := b3.f0; have f31 := b3.f1; have n3 := b3.ne; have l3 := b3.lt; clear hk)
          | (go_at_call_of 24 (Value.agg #[Value.bool true, Value.pointer pr]); refine (isZero_any _ (HR.out.below hb)).mono ?_; rintro e wn ⟨rfl, hk⟩; have hb := hb.trans (hk.mono hb.size); have b1 := b1.below hk; have b2 := b2.below hk; have b3 := b3.below hk; have c10 := b1.c0; have c11 := b1.c1; have f10 := b1.f0; have f11 := b1.f1; have n1 := b1.ne; have l1 := b1.lt; have c20 := b2.c0; have c21 := b2.c1; have f20 := b2.f0; have f21 := b2.f1; have n2 := b2.ne; have l2 := b2.lt; have c30 := b3.c0; have c31 := b3.c1; have f30 := b3.f0; have f31 := b3.f1; have n3 := b3.ne; have l3 := b3.lt; clear hk)
          | (go_at_call_of 25 (Value.agg #[Value.bool true, Value.pointer pl]); refine (isOne_is _ (HL.out.below hb) hol).mono ?_; rintro e wn ⟨rfl, hk⟩; have hb := hb.trans (hk.mono hb.size); have b1 := b1.below hk; have b2 := b2.below hk; have b3 := b3.below hk; have c10 := b1.c0; have c11 := b1.c1; have f10 := b1.f0; have f11 := b1.f1; have n1 := b1.ne; have l1 := b1.lt; have c20 := b2.c0; have c21 := b2.c1; have f20 := b2.f0; have f21 := b2.f1; have n2 := b2.ne; have l2 := b2.lt; have c30 := b3.c0; have c31 := b3.c1; have f30 := b3.f0; have f31 := b3.f1; have n3 := b3.ne; have l3 := b3.lt; clear hk)
          | (go_at_call_of 25 (Value.agg #[Value.bool true, Value.pointer pr]); refine (isOne_is _ (HR.out.below hb) hor).mono ?_; rintro e wn ⟨rfl, hk⟩; have hb := hb.trans (hk.mono hb.size); have b1 := b1.below hk; have b2 := b2.below hk; have b3 := b3.below hk; have c10 := b1.c0; have c11 := b1.c1; have f10 := b1.f0; have f11 := b1.f1; have n1 := b1.ne; have l1 := b1.lt; have c20 := b2.c0; have c21 := b2.c1; have f20 := b2.f0; have f21 := b2.f1; have n2 := b2.ne; have l2 := b2.lt; have c30 := b3.c0; have c31 := b3.c1; have f30 := b3.f0; have f31 := b3.f1; have n3 := b3.ne; have l3 := b3.lt; clear hk)
          | (go_at_call 21; refine (zero_any _).mono ?_; rintro e wn ⟨v, rfl, rfl, hk⟩; have hb := hb.trans (hk.mono hb.size); have b1 := b1.below hk; have b2 := b2.below hk; have b3 := b3.below hk; have c10 := b1.c0; have c11 := b1.c1; have f10 := b1.f0; have f11 := b1.f1; have n1 := b1.ne; have l1 := b1.lt; have c20 := b2.c0; have c21 := b2.c1; have f20 := b2.f0; have f21 := b2.f1; have n2 := b2.ne; have l2 := b2.lt; have c30 := b3.c0; have c31 := b3.c1; have f30 := b3.f0; have f31 := b3.f1; have n3 := b3.ne; have l3 := b3.lt; clear hk)
          | (go_at_call 18; refine (one_any _).mono ?_; rintro e wn ⟨v, rfl, rfl, hk⟩; have hb := hb.trans (hk.mono hb.size); have b1 := b1.below hk; have b2 := b2.below hk; have b3 := b3.below hk; have c10 := b1.c0; have c11 := b1.c1; have f10 := b1.f0; have f11 := b1.f1; have n1 := b1.ne; have l1 := b1.lt; have c20 := b2.c0; have c21 := b2.c1; have f20 := b2.f0; have f21 := b2.f1; have n2 := b2.ne; have l2 := b2.lt; have c30 := b3.c0; have c31 := b3.c1; have f30 := b3.f0; have f31 := b3.f1; have n3 := b3.ne; have l3 := b3.lt; clear hk))
        exact bodyPost_ret (v := .agg #[.bool true, .pointer none]) (by simp [results, go_sem, *]) rfl ⟨_, rfl, by rw [pair_oo hol hor]; rfl, (hb.setCell (by show w.heap.size ≤ C; omega) _).setCell (by show w.heap.size ≤ C; omega) _⟩
      | false =>
        have b1 := (Bx.new w true pl).alloc (.cells #[.bool false, .pointer pr] 31) |>.alloc (.cells #[.bool false, .pointer none] 31)
        have b2 := (Bx.new (w.alloc (.cells #[.bool true, .pointer pl] 31)) false pr).alloc (.cells #[.bool false, .pointer none] 31)
        have b3 := Bx.new ((w.alloc (.cells #[.bool true, .pointer pl] 31)).alloc (.cells #[.bool false, .pointer pr] 31)) false none
        have hb := ((bel0 w (.cells #[.bool true, .pointer pl] 31)).alloc (by simp) (.cells #[.bool false, .pointer pr] 31)).alloc (by simp; omega) (.cells #[.bool false, .pointer none] 31)
        simp only [asz] at b2 b3
        go_enter Try.func57, Try.ntmps57
        go_wp2_with fail
        generalize ((w.alloc (.cells #[.bool true, .pointer pl] 31)).alloc (.cells #[.bool false, .pointer pr] 31)).alloc (.cells #[.bool false, .pointer none] 31) = w3 at *
        obtain ⟨B, hB⟩ : ∃ B, w.heap.size = B := ⟨_, rfl⟩
        rw [hB] at b1 b2 b3 ⊢
        obtain ⟨C, hC⟩ : ∃ C, B + 1 + 1 = C := ⟨_, rfl⟩
        obtain ⟨D, hD⟩ : ∃ D, B + 1 = D := ⟨_, rfl⟩
        rw [hC] at b3 ⊢
        rw [hD] at b2 ⊢
        have c10 := b1.c0
        have c11 := b1.c1
        go_wp2_with (first
          | (go_at_call_of 24 (Value.agg #[Value.bool true, Value.pointer pl]); refine (isZero_any _ (HL.out.below hb)).mono ?_; rintro e wn ⟨rfl, hk⟩; have hb := hb.trans (hk.mono hb.size); have b1 := b1.below hk; have b2 := b2.below hk; have b3 := b3.below hk; have c10 := b1.c0; have c11 := b1.c1; have f10 := b1.f0; have f11 := b1.f1; have n1 := b1.ne; have l1 := b1.lt; have c20 := b2.c0; have c21 := b2.c1; have f20 := b2.f0; have f21 := b2.f1; have n2 := b2.ne; have l2 := b2.lt; have c30 := b3.c0; have c31 := b3.c1; have f30 := b3.f0; have f31 := b3.f1; have n3 := b3.ne; have l3 := b3.lt; clear hk)
          | (go_at_call_of 24 (Value.agg #[Value.bool false, Value.pointer pr]); refine (isZero_any _ (HR.out.below hb)).mono ?_; rintro e wn ⟨rfl, hk⟩; have hb := hb.trans (hk.mono hb.size); have b1 := b1.below hk; have b2 := b2.below hk; have b3 := b3.below hk; have c10 := b1.c0; have c11 := b1.c1; have f10 := b1.f0; have f11 := b1.f1; have n1 := b1.ne; have l1 := b1.lt; have c20 := b2.c0; have c21 := b2.c1; have f20 := b2.f0; have f21 := b2.f1; have n2 := b2.ne; have l2 := b2.lt; have c30 := b3.c0; have c31 := b3.c1; have f30 := b3.f0; have f31 := b3.f1; have n3 := b3.ne; have l3 := b3.lt; clear hk)
          | (go_at_call_of 25 (Value.agg #[Value.bool true, Value.pointer pl]); refine (isOne_is _ (HL.out.below hb) hol).mono ?_; rintro e wn ⟨rfl, hk⟩; have hb := hb.trans (hk.mono hb.size); have b1 := b1.below hk; have b2 := b2.below hk; have b3 := b3.below hk; have c10 := b1.c0; have c11 := b1.c1; have f10 := b1.f0; have f11 := b1.f1; have n1 := b1.ne; have l1 := b1.lt; have c20 := b2.c0; have c21 := b2.c1; have f20 := b2.f0; have f21 := b2.f1; have n2 := b2.ne; have l2 := b2.lt; have c30 := b3.c0; have c31 := b3.c1; have f30 := b3.f0; have f31 := b3.f1; have n3 := b3.ne; have l3 := b3.lt; clear hk)
          | (go_at_call_of 25 (Value.agg #[Value.bool false, Value.pointer pr]); refine (isOne_is _ (HR.out.below hb) hor).mono ?_; rintro e wn ⟨rfl, hk⟩; have hb := hb.trans (hk.mono hb.size); have b1 := b1.below hk; have b2 := b2.below hk; have b3 := b3.below hk; have c10 := b1.c0; have c11 := b1.c1; have f10 := b1.f0; have f11 := b1.f1; have n1 := b1.ne; have l1 := b1.lt; have c20 := b2.c0; have c21 := b2.c1; have f20 := b2.f0; have f21 := b2.f1; have n2 := b2.ne; have l2 := b2.lt; have c30 := b3.c0; have c31 := b3.c1; have f30 := b3.f0; have f31 := b3.f1; have n3 := b3.ne; have l3 := b3.lt; clear hk)
          | (go_at_call 21; refine (zero_any _).mono ?_; rintro e wn ⟨v, rfl, rfl, hk⟩; have hb := hb.trans (hk.mono hb.size); have b1 := b1.below hk; have b2 := b2.below hk; have b3 := b3.below hk; have c10 := b1.c0; have c11 := b1.c1; have f10 := b1.f0; have f11 := b1.f1; have n1 := b1.ne; have l1 := b1.lt; have c20 := b2.c0; have c21 := b2.c1; have f20 := b2.f0; have f21 := b2.f1; have n2 := b2.ne; have l2 := b2.lt; have c30 := b3.c0; have c31 := b3.c1; have f30 := b3.f0; have f31 := b3.f1; have n3 := b3.ne; have l3 := b3.lt; clear hk)
          | (go_at_call 18; refine (one_any _).mono ?_; rintro e wn ⟨v, rfl, rfl, hk⟩; have hb := hb.trans (hk.mono hb.size); have b1 := b1.below hk; have b2 := b2.below hk; have b3 := b3.below hk; have c10 := b1.c0; have c11 := b1.c1; have f10 := b1.f0; have f11 := b1.f1; have n1 := b1.ne; have l1 := b1.lt; have c20 := b2.c0; have c21 := b2.c1; have f20 := b2.f0; have f21 := b2.f1; have n2 := b2.ne; have l2 := b2.lt; have c30 := b3.c0; have c31 := b3.c1; have f30 := b3.f0; have f31 := b3.f1; have n3 := b3.ne; have l3 := b3.lt; clear hk))
        have hs2 := bset (bset hb (R := C) (by omega) 0 (.bool false)) (R := C) (by omega) 1 (.pointer (some ⟨wn.heap.size, 0, none⟩))
        have hbf := hs2.alloc hs2.size (.cells #[.bool true, .pointer pl, .bool false, .pointer pr] 85)
        exact bodyPost_ret (v := .agg #[.bool false, .pointer (some ⟨wn.heap.size, 0, none⟩)]) (by simp [results, go_sem, *]) rfl ⟨_, rfl, by
          rw [pair_n (fun h => by simp [hzl] at h) (fun h => by simp [hor] at h)]
          exact ⟨wn.heap.size, pl, pr, rfl, by rw [hol, hor]; exact new_at (by rw [ssz, ssz]) _, by rw [hol]; exact HL.out.below hbf, by rw [hor]; exact HR.out.below hbf⟩, hbf⟩
    | false =>
      have b1 := (Bx.new w false pl).alloc (.cells #[.bool b, .pointer pr] 31) |>.alloc (.cells #[.bool false, .pointer none] 31)
      have b2 := (Bx.new (w.alloc (.cells #[.bool false, .pointer pl] 31)) b pr).alloc (.cells #[.bool false, .pointer none] 31)
      have b3 := Bx.new ((w.alloc (.cells #[.bool false, .pointer pl] 31)).alloc (.cells #[.bool b, .pointer pr] 31)) false none
      have hb := ((bel0 w (.cells #[.bool false, .pointer pl] 31)).alloc (by simp) (.cells #[.bool b, .pointer pr] 31)).alloc (by simp; omega) (.cells #[.bool false, .pointer none] 31)
      simp only [asz] at b2 b3
      go_enter Try.func57, Try.ntmps57
      go_wp2_with fail
      generalize ((w.alloc (.cells #[.bool false, .pointer pl] 31)).alloc (.cells #[.bool b, .pointer pr] 31)).alloc (.cells #[.bool false, .pointer none] 31) = w3 at *
      obtain ⟨B, hB⟩ : ∃ B, w.heap.size = B := ⟨_, rfl⟩
      rw [hB] at b1 b2 b3 ⊢
      obtain ⟨C, hC⟩ : ∃ C, B + 1 + 1 = C := ⟨_, rfl⟩
      obtain ⟨D, hD⟩ : ∃ D, B + 1 = D := ⟨_, rfl⟩
      rw [hC] at b3 ⊢
      rw [hD] at b2 ⊢
      have c10 := b1.c0
      have c11 := b1.c1
      go_wp2_with (first
        | (go_at_call_of 24 (Value.agg #[Value.bool false, Value.pointer pl]); refine (isZero_any _ (HL.out.below hb)).mono ?_; rintro e wn ⟨rfl, hk⟩; have hb := hb.trans (hk.mono hb.size); have b1 := b1.below hk; have b2 := b2.below hk; have b3 := b3.below hk; have c10 := b1.c0; have c11 := b1.c1; have f10 := b1.f0; have f11 := b1.f1; have n1 := b1.ne; have l1 := b1.lt; have c20 := b2.c0; have c21 := b2.c1; have f20 := b2.f0; have f21 := b2.f1; have n2 := b2.ne; have l2 := b2.lt; have c30 := b3.c0; have c31 := b3.c1; have f30 := b3.f0; have f31 := b3.f1; have n3 := b3.ne; have l3 := b3.lt; clear hk)
        | (go_at_call_of 24 (Value.agg #[Value.bool b, Value.pointer pr]); refine (isZero_any _ (HR.out.below hb)).mono ?_; rintro e wn ⟨rfl, hk⟩; have hb := hb.trans (hk.mono hb.size); have b1 := b1.below hk; have b2 := b2.below hk; have b3 := b3.below hk; have c10 := b1.c0; have c11 := b1.c1; have f10 := b1.f0; have f11 := b1.f1; have n1 := b1.ne; have l1 := b1.lt; have c20 := b2.c0; have c21 := b2.c1; have f20 := b2.f0; have f21 := b2.f1; have n2 := b2.ne; have l2 := b2.lt; have c30 := b3.c0; have c31 := b3.c1; have f30 := b3.f0; have f31 := b3.f1; have n3 := b3.ne; have l3 := b3.lt; clear hk)
        | (go_at_call_of 25 (Value.agg #[Value.bool false, Value.pointer pl]); refine (isOne_is _ (HL.out.below hb) hol).mono ?_; rintro e wn ⟨rfl, hk⟩; have hb := hb.trans (hk.mono hb.size); have b1 := b1.below hk; have b2 := b2.below hk; have b3 := b3.below hk; have c10 := b1.c0; have c11 := b1.c1; have f10 := b1.f0; have f11 := b1.f1; have n1 := b1.ne; have l1 := b1.lt; have c20 := b2.c0; have c21 := b2.c1; have f20 := b2.f0; have f21 := b2.f1; have n2 := b2.ne; have l2 := b2.lt; have c30 := b3.c0; have c31 := b3.c1; have f30 := b3.f0; have f31 := b3.f1; have n3 := b3.ne; have l3 := b3.lt; clear hk)
        | (go_at_call_of 25 (Value.agg #[Value.bool b, Value.pointer pr]); refine (isOne_is _ (HR.out.below hb) hor).mono ?_; rintro e wn ⟨rfl, hk⟩; have hb := hb.trans (hk.mono hb.size); have b1 := b1.below hk; have b2 := b2.below hk; have b3 := b3.below hk; have c10 := b1.c0; have c11 := b1.c1; have f10 := b1.f0; have f11 := b1.f1; have n1 := b1.ne; have l1 := b1.lt; have c20 := b2.c0; have c21 := b2.c1; have f20 := b2.f0; have f21 := b2.f1; have n2 := b2.ne; have l2 := b2.lt; have c30 := b3.c0; have c31 := b3.c1; have f30 := b3.f0; have f31 := b3.f1; have n3 := b3.ne; have l3 := b3.lt; clear hk)
        | (go_at_call 21; refine (zero_any _).mono ?_; rintro e wn ⟨v, rfl, rfl, hk⟩; have hb := hb.trans (hk.mono hb.size); have b1 := b1.below hk; have b2 := b2.below hk; have b3 := b3.below hk; have c10 := b1.c0; have c11 := b1.c1; have f10 := b1.f0; have f11 := b1.f1; have n1 := b1.ne; have l1 := b1.lt; have c20 := b2.c0; have c21 := b2.c1; have f20 := b2.f0; have f21 := b2.f1; have n2 := b2.ne; have l2 := b2.lt; have c30 := b3.c0; have c31 := b3.c1; have f30 := b3.f0; have f31 := b3.f1; have n3 := b3.ne; have l3 := b3.lt; clear hk)
        | (go_at_call 18; refine (one_any _).mono ?_; rintro e wn ⟨v, rfl, rfl, hk⟩; have hb := hb.trans (hk.mono hb.size); have b1 := b1.below hk; have b2 := b2.below hk; have b3 := b3.below hk; have c10 := b1.c0; have c11 := b1.c1; have f10 := b1.f0; have f11 := b1.f1; have n1 := b1.ne; have l1 := b1.lt; have c20 := b2.c0; have c21 := b2.c1; have f20 := b2.f0; have f21 := b2.f1; have n2 := b2.ne; have l2 := b2.lt; have c30 := b3.c0; have c31 := b3.c1; have f30 := b3.f0; have f31 := b3.f1; have n3 := b3.ne; have l3 := b3.lt; clear hk))
      have hs2 := bset (bset hb (R := C) (by omega) 0 (.bool false)) (R := C) (by omega) 1 (.pointer (some ⟨wn.heap.size, 0, none⟩))
      have hbf := hs2.alloc hs2.size (.cells #[.bool false, .pointer pl, .bool b, .pointer pr] 85)
      exact bodyPost_ret (v := .agg #[.bool false, .pointer (some ⟨wn.heap.size, 0, none⟩)]) (by simp [results, go_sem, *]) rfl ⟨_, rfl, by
        rw [pair_n (fun h => by simp [hzl] at h) (fun h => by simp [hol] at h)]
        exact ⟨wn.heap.size, pl, pr, rfl, by rw [hol, hor]; exact new_at (by rw [ssz, ssz]) _, by rw [hol]; exact HL.out.below hbf, by rw [hor]; exact HR.out.below hbf⟩, hbf⟩
end Go.Proofs.Ytigkjmfkpmehlaa
