/- id.Sum, Same. (Printed by wip/ids/sums.py.) -/
import Derived.Test.YtigkjmfkpmehlaaSum0
namespace Go.Proofs.Ytigkjmfkpmehlaa
open Go.RowKit

def sumR (a b : T) : T × Int := if a.disj b = true then (a.sum b, 0) else (.z, 5)
def T.same (a b : T) : Bool := a.cov b && b.cov a
theorem disj_is {s t : T} {u v : Value} {a : Bool} (w : World) (h : IDV w s u) (k : IDV w t v) (ha : s.disj t = a) : Calls Try.prog 22 #[u, v] w fun e w' => e = .returned (.bool a) ∧ Below w.heap.size w w' := by
  subst ha
  exact disj_any w h k
theorem cov_is {s t : T} {u v : Value} {a : Bool} (w : World) (h : IDV w s u) (k : IDV w t v) (ha : s.cov t = a) : Calls Try.prog 34 #[u, v] w fun e w' => e = .returned (.bool a) ∧ Below w.heap.size w w' := by
  subst ha
  exact cov_any w h k

set_option maxHeartbeats 800000 in
theorem Sum_any {a b : T} {vl vr : Value} (w : World) (hl : IDV w a vl) (hr : IDV w b vr) : Calls Try.prog 23 #[vl, vr] w fun e w' => ∃ v, e = .returned (.tuple #[v, .int .i64 (sumR a b).2]) ∧ IDV w' (sumR a b).1 v ∧ Below w.heap.size w w' := by
  obtain ⟨oa, pl, rfl, hol⟩ := hl.shape'
  obtain ⟨ob, pr, rfl, hor⟩ := hr.shape'
  have HL := Lib.hid hl
  have HR := Lib.hid hr
  clear hl hr
  cases hd : a.disj b with
  | true =>
    have b1 := ((Bx.new w oa pl).alloc (.cells #[.bool ob, .pointer pr] 31)).alloc (.cells #[.bool false, .pointer none] 31)
    have b2 := (Bx.new (w.alloc (.cells #[.bool oa, .pointer pl] 31)) ob pr).alloc (.cells #[.bool false, .pointer none] 31)
    have b3 := Bx.new ((w.alloc (.cells #[.bool oa, .pointer pl] 31)).alloc (.cells #[.bool ob, .pointer pr] 31)) false none
    have hb := ((bel0 w (.cells #[.bool oa, .pointer pl] 31)).alloc (by simp only [asz]; omega) (.cells #[.bool ob, .pointer pr] 31)).alloc (by simp only [asz]; omega) (.cells #[.bool false, .pointer none] 31)
    simp only [asz] at b2 b3
    go_enter Try.func23, Try.ntmps23
    go_wp2_with fail
    generalize ((w.alloc (.cells #[.bool oa, .pointer pl] 31)).alloc (.cells #[.bool ob, .pointer pr] 31)).alloc (.cells #[.bool false, .pointer none] 31) = w3 at *
    obtain ⟨B, hB⟩ : ∃ B, w.heap.size = B := ⟨_, rfl⟩
    rw [hB] at b1 b2 b3 ⊢
    obtain ⟨C, hC⟩ : ∃ C, B + 1 + 1 = C := ⟨_, rfl⟩
    rw [hC] at b3 ⊢
    obtain ⟨D, hD⟩ : ∃ D, B + 1 = D := ⟨_, rfl⟩
    rw [hD] at b2 ⊢
    have c10 := b1.c0
    have c11 := b1.c1
    have f10 := b1.f0
    have f11 := b1.f1
    have n1 := b1.ne
    have l1 := b1.lt
    have c20 := b2.c0
    have c21 := b2.c1
    have f20 := b2.f0
    have f21 := b2.f1
    have n2 := b2.ne
    have l2 := b2.lt
    have c30 := b3.c0
    have c31 := b3.c1
    have f30 := b3.f0
    have f31 := b3.f1
    have n3 := b3.ne
    have l3 := b3.lt
    go_wp2_with (first
      | (go_at_call 22; refine (disj_is _ (HL.out.below hb) (HR.out.below hb) hd).mono ?_; rintro e wn ⟨rfl, hk⟩; have hb := hb.trans (hk.mono hb.size); have b1 := b1.below hk; have b2 := b2.below hk; have b3 := b3.below hk; have c10 := b1.c0; have c11 := b1.c1; have f10 := b1.f0; have f11 := b1.f1; have n1 := b1.ne; have l1 := b1.lt; have c20 := b2.c0; have c21 := b2.c1; have f20 := b2.f0; have f21 := b2.f1; have n2 := b2.ne; have l2 := b2.lt; have c30 := b3.c0; have c31 := b3.c1; have f30 := b3.f0; have f31 := b3.f1; have n3 := b3.ne; have l3 := b3.lt; clear hk)
      | (go_at_call 56; refine (sum_any _ hd (HL.out.below hb) (HR.out.below hb)).mono ?_; rintro e wn ⟨v, rfl, hv, hk⟩; obtain ⟨o3, q3, rfl, ho3⟩ := hv.shape'; have HV := Lib.hid hv; clear hv; have hb := hb.trans (hk.mono hb.size); have b1 := b1.below hk; have b2 := b2.below hk; have b3 := b3.below hk; have c10 := b1.c0; have c11 := b1.c1; have f10 := b1.f0; have f11 := b1.f1; have n1 := b1.ne; have l1 := b1.lt; have c20 := b2.c0; have c21 := b2.c1; have f20 := b2.f0; have f21 := b2.f1; have n2 := b2.ne; have l2 := b2.lt; have c30 := b3.c0; have c31 := b3.c1; have f30 := b3.f0; have f31 := b3.f1; have n3 := b3.ne; have l3 := b3.lt; clear hk))
    have hf := bput hb (R := C) (by omega) o3 q3
    exact bodyPost_ret (v := .tuple #[.agg #[.bool o3, .pointer q3], .int .i64 0]) (by simp [results, go_sem, *]) rfl ⟨_, by simp only [sumR, hd]; rfl, by simp only [sumR, hd]; exact HV.out.kp (Kp.put b3 o3 q3), hf⟩
  | false =>
    have b1 := ((Bx.new w oa pl).alloc (.cells #[.bool ob, .pointer pr] 31)).alloc (.cells #[.bool false, .pointer none] 31)
    have b2 := (Bx.new (w.alloc (.cells #[.bool oa, .pointer pl] 31)) ob pr).alloc (.cells #[.bool false, .pointer none] 31)
    have b3 := Bx.new ((w.alloc (.cells #[.bool oa, .pointer pl] 31)).alloc (.cells #[.bool ob, .pointer pr] 31)) false none
    have hb := ((bel0 w (.cells #[.bool oa, .pointer pl] 31)).alloc (by simp only [asz]; omega) (.cells #[.bool ob, .pointer pr] 31)).alloc (by simp only [asz]; omega) (.cells #[.bool false, .pointer none] 31)
    simp only [asz] at b2 b3
    go_enter Try.func23, Try.ntmps23
    go_wp2_with fail
    generalize ((w.alloc (.cells #[.bool oa, .pointer pl] 31)).alloc (.cells #[.bool ob, .pointer pr] 31)).alloc (.cells #[.bool false, .pointer none] 31) = w3 at *
    obtain ⟨B, hB⟩ : ∃ B, w.heap.size = B := ⟨_, rfl⟩
    rw [hB] at b1 b2 b3 ⊢
    obtain ⟨C, hC⟩ : ∃ C, B + 1 + 1 = C := ⟨_, rfl⟩
    rw [hC] at b3 ⊢
    obtain ⟨D, hD⟩ : ∃ D, B + 1 = D := ⟨_, rfl⟩
    rw [hD] at b2 ⊢
    have c10 := b1.c0
    have c11 := b1.c1
    have f10 := b1.f0
    have f11 := b1.f1
    have n1 := b1.ne
    have l1 := b1.lt
    have c20 := b2.c0
    have c21 := b2.c1
    have f20 := b2.f0
    have f21 := b2.f1
    have n2 := b2.ne
    have l2 := b2.lt
    have c30 := b3.c0
    have c31 := b3.c1
    have f30 := b3.f0
    have f31 := b3.f1
    have n3 := b3.ne
    have l3 := b3.lt
    go_wp2_with (first
      | (go_at_call 22; refine (disj_is _ (HL.out.below hb) (HR.out.below hb) hd).mono ?_; rintro e wn ⟨rfl, hk⟩; have hb := hb.trans (hk.mono hb.size); have b1 := b1.below hk; have b2 := b2.below hk; have b3 := b3.below hk; have c10 := b1.c0; have c11 := b1.c1; have f10 := b1.f0; have f11 := b1.f1; have n1 := b1.ne; have l1 := b1.lt; have c20 := b2.c0; have c21 := b2.c1; have f20 := b2.f0; have f21 := b2.f1; have n2 := b2.ne; have l2 := b2.lt; have c30 := b3.c0; have c31 := b3.c1; have f30 := b3.f0; have f31 := b3.f1; have n3 := b3.ne; have l3 := b3.lt; clear hk)
      | (go_at_call 21; refine (zero_any _).mono ?_; rintro e wn ⟨v, rfl, rfl, hk⟩; have hb := hb.trans (hk.mono hb.size); have b1 := b1.below hk; have b2 := b2.below hk; have b3 := b3.below hk; have c10 := b1.c0; have c11 := b1.c1; have f10 := b1.f0; have f11 := b1.f1; have n1 := b1.ne; have l1 := b1.lt; have c20 := b2.c0; have c21 := b2.c1; have f20 := b2.f0; have f21 := b2.f1; have n2 := b2.ne; have l2 := b2.lt; have c30 := b3.c0; have c31 := b3.c1; have f30 := b3.f0; have f31 := b3.f1; have n3 := b3.ne; have l3 := b3.lt; clear hk))
    have hf := bput hb (R := C) (by omega) false none
    exact bodyPost_ret (v := .tuple #[.agg #[.bool false, .pointer none], .int .i64 5]) (by simp [results, go_sem, *]) rfl ⟨_, by simp only [sumR, hd]; rfl, by simp only [sumR, hd]; exact rfl, hf⟩

set_option maxHeartbeats 800000 in
theorem Same_any {a b : T} {vl vr : Value} (w : World) (hl : IDV w a vl) (hr : IDV w b vr) : Calls Try.prog 35 #[vl, vr] w fun e w' => e = .returned (.bool (a.same b)) ∧ Below w.heap.size w w' := by
  obtain ⟨oa, pl, rfl, hol⟩ := hl.shape'
  obtain ⟨ob, pr, rfl, hor⟩ := hr.shape'
  have HL := Lib.hid hl
  have HR := Lib.hid hr
  clear hl hr
  cases h1 : a.cov b with
  | true =>
    cases h2 : b.cov a with
    | true =>
      have HS : Hid (a.same b = true) := Lib.hid (by unfold T.same; rw [h1, h2]; rfl)
      have b1 := (Bx.new w oa pl).alloc (.cells #[.bool ob, .pointer pr] 31)
      have b2 := Bx.new (w.alloc (.cells #[.bool oa, .pointer pl] 31)) ob pr
      have hb := (bel0 w (.cells #[.bool oa, .pointer pl] 31)).alloc (by simp only [asz]; omega) (.cells #[.bool ob, .pointer pr] 31)
      simp only [asz] at b2
      go_enter Try.func35, Try.ntmps35
      go_wp2_with fail
      generalize (w.alloc (.cells #[.bool oa, .pointer pl] 31)).alloc (.cells #[.bool ob, .pointer pr] 31) = w3 at *
      obtain ⟨B, hB⟩ : ∃ B, w.heap.size = B := ⟨_, rfl⟩
      rw [hB] at b1 b2 ⊢
      obtain ⟨D, hD⟩ : ∃ D, B + 1 = D := ⟨_, rfl⟩
      rw [hD] at b2 ⊢
      have c10 := b1.c0
      have c11 := b1.c1
      have f10 := b1.f0
      have f11 := b1.f1
      have n1 := b1.ne
      have l1 := b1.lt
      have c20 := b2.c0
      have c21 := b2.c1
      have f20 := b2.f0
      have f21 := b2.f1
      have n2 := b2.ne
      have l2 := b2.lt
      go_wp2_with (first
        | (go_at_call_of 34 (Value.agg #[Value.bool oa, Value.pointer pl]); with_reducible refine (cov_is _ (HL.out.below hb) (HR.out.below hb) h1).mono ?_; rintro e wn ⟨rfl, hk⟩; have hb := hb.trans (hk.mono hb.size); have b1 := b1.below hk; have b2 := b2.below hk; have c10 := b1.c0; have c11 := b1.c1; have f10 := b1.f0; have f11 := b1.f1; have n1 := b1.ne; have l1 := b1.lt; have c20 := b2.c0; have c21 := b2.c1; have f20 := b2.f0; have f21 := b2.f1; have n2 := b2.ne; have l2 := b2.lt; clear hk)
        | (go_at_call_of 34 (Value.agg #[Value.bool ob, Value.pointer pr]); with_reducible refine (cov_is _ (HR.out.below hb) (HL.out.below hb) h2).mono ?_; rintro e wn ⟨rfl, hk⟩; have hb := hb.trans (hk.mono hb.size); have b1 := b1.below hk; have b2 := b2.below hk; have c10 := b1.c0; have c11 := b1.c1; have f10 := b1.f0; have f11 := b1.f1; have n1 := b1.ne; have l1 := b1.lt; have c20 := b2.c0; have c21 := b2.c1; have f20 := b2.f0; have f21 := b2.f1; have n2 := b2.ne; have l2 := b2.lt; clear hk))
      go_ret
      exact ⟨by rw [HS.out]; rfl, hb⟩
    | false =>
      have HS : Hid (a.same b = false) := Lib.hid (by unfold T.same; rw [h1, h2]; rfl)
      have b1 := (Bx.new w oa pl).alloc (.cells #[.bool ob, .pointer pr] 31)
      have b2 := Bx.new (w.alloc (.cells #[.bool oa, .pointer pl] 31)) ob pr
      have hb := (bel0 w (.cells #[.bool oa, .pointer pl] 31)).alloc (by simp only [asz]; omega) (.cells #[.bool ob, .pointer pr] 31)
      simp only [asz] at b2
      go_enter Try.func35, Try.ntmps35
      go_wp2_with fail
      generalize (w.alloc (.cells #[.bool oa, .pointer pl] 31)).alloc (.cells #[.bool ob, .pointer pr] 31) = w3 at *
      obtain ⟨B, hB⟩ : ∃ B, w.heap.size = B := ⟨_, rfl⟩
      rw [hB] at b1 b2 ⊢
      obtain ⟨D, hD⟩ : ∃ D, B + 1 = D := ⟨_, rfl⟩
      rw [hD] at b2 ⊢
      have c10 := b1.c0
      have c11 := b1.c1
      have f10 := b1.f0
      have f11 := b1.f1
      have n1 := b1.ne
      have l1 := b1.lt
      have c20 := b2.c0
      have c21 := b2.c1
      have f20 := b2.f0
      have f21 := b2.f1
      have n2 := b2.ne
      have l2 := b2.lt
      go_wp2_with (first
        | (go_at_call_of 34 (Value.agg #[Value.bool oa, Value.pointer pl]); with_reducible refine (cov_is _ (HL.out.below hb) (HR.out.below hb) h1).mono ?_; rintro e wn ⟨rfl, hk⟩; have hb := hb.trans (hk.mono hb.size); have b1 := b1.below hk; have b2 := b2.below hk; have c10 := b1.c0; have c11 := b1.c1; have f10 := b1.f0; have f11 := b1.f1; have n1 := b1.ne; have l1 := b1.lt; have c20 := b2.c0; have c21 := b2.c1; have f20 := b2.f0; have f21 := b2.f1; have n2 := b2.ne; have l2 := b2.lt; clear hk)
        | (go_at_call_of 34 (Value.agg #[Value.bool ob, Value.pointer pr]); with_reducible refine (cov_is _ (HR.out.below hb) (HL.out.below hb) h2).mono ?_; rintro e wn ⟨rfl, hk⟩; have hb := hb.trans (hk.mono hb.size); have b1 := b1.below hk; have b2 := b2.below hk; have c10 := b1.c0; have c11 := b1.c1; have f10 := b1.f0; have f11 := b1.f1; have n1 := b1.ne; have l1 := b1.lt; have c20 := b2.c0; have c21 := b2.c1; have f20 := b2.f0; have f21 := b2.f1; have n2 := b2.ne; have l2 := b2.lt; clear hk))
      go_ret
      exact ⟨by rw [HS.out]; rfl, hb⟩
  | false =>
    have HS : Hid (a.same b = false) := Lib.hid (by unfold T.same; rw [h1]; rfl)
    have b1 := (Bx.new w oa pl).alloc (.cells #[.bool ob, .pointer pr] 31)
    have b2 := Bx.new (w.alloc (.cells #[.bool oa, .pointer pl] 31)) ob pr
    have hb := (bel0 w (.cells #[.bool oa, .pointer pl] 31)).alloc (by simp only [asz]; omega) (.cells #[.bool ob, .pointer pr] 31)
    simp only [asz] at b2
    go_enter Try.func35, Try.ntmps35
    go_wp2_with fail
    generalize (w.alloc (.cells #[.bool oa, .pointer pl] 31)).alloc (.cells #[.bool ob, .pointer pr] 31) = w3 at *
    obtain ⟨B, hB⟩ : ∃ B, w.heap.size = B := ⟨_, rfl⟩
    rw [hB] at b1 b2 ⊢
    obtain ⟨D, hD⟩ : ∃ D, B + 1 = D := ⟨_, rfl⟩
    rw [hD] at b2 ⊢
    have c10 := b1.c0
    have c11 := b1.c1
    have f10 := b1.f0
    have f11 := b1.f1
    have n1 := b1.ne
    have l1 := b1.lt
    have c20 := b2.c0
    have c21 := b2.c1
    have f20 := b2.f0
    have f21 := b2.f1
    have n2 := b2.ne
    have l2 := b2.lt
    go_wp2_with (first
      | (go_at_call_of 34 (Value.agg #[Value.bool oa, Value.pointer pl]); with_reducible refine (cov_is _ (HL.out.below hb) (HR.out.below hb) h1).mono ?_; rintro e wn ⟨rfl, hk⟩; have hb := hb.trans (hk.mono hb.size); have b1 := b1.below hk; have b2 := b2.below hk; have c10 := b1.c0; have c11 := b1.c1; have f10 := b1.f0; have f11 := b1.f1; have n1 := b1.ne; have l1 := b1.lt; have c20 := b2.c0; have c21 := b2.c1; have f20 := b2.f0; have f21 := b2.f1; have n2 := b2.ne; have l2 := b2.lt; clear hk))
    go_ret
    exact ⟨by rw [HS.out]; rfl, hb⟩
end Go.Proofs.Ytigkjmfkpmehlaa
