/- awake (of kinfolklaw03): its example holds. (Printed by wip/ids/awake3.py.) -/
import Derived.Test.YtigkjmfkpmehlaaMeasure
namespace Go.Proofs.Ytigkjmfkpmehlaa
open Go.RowKit

set_option maxRecDepth 100000 in
set_option maxHeartbeats 1600000 in
theorem awake3_any (w : World) : Calls Try.prog 15 #[] w fun e w' => e = .returned (.bool true) ∧ Below w.heap.size w w' := by
  have P1 := Lib.hid (show parseR [40, 49, 44, 40, 48, 44, 49, 41, 41] = (T.n .o (.n .z .o), 0) by decide)
  have S1 := Lib.hid (show spB (T.n .o (.n .z .o)) 0 4607182418800017408 = some [(0, 4602678819172646912), (4604930618986332160, 4598175219545276416)] by kernel_rfl)
  have M1 := Lib.hid (show mB 0 0 [(0, 4602678819172646912), (4604930618986332160, 4598175219545276416)] = some (4604930618986332160, 4611686018427387904) by kernel_rfl)
  have k1 : (FloatKind.f64.format.order 0 0 == some .eq) = true := by kernel_rfl
  have k2 : (FloatKind.f64.format.order 4602678819172646912 4602678819172646912 == some .eq) = true := by kernel_rfl
  have k3 : (FloatKind.f64.format.order 4604930618986332160 4604930618986332160 == some .eq) = true := by kernel_rfl
  have k4 : (FloatKind.f64.format.order 4598175219545276416 4598175219545276416 == some .eq) = true := by kernel_rfl
  have k5 : (FloatKind.f64.format.order 4611686018427387904 4611686018427387904 == some .eq) = true := by kernel_rfl
  have hb := Below.refl w.heap.size w
  go_enter Try.func15, Try.ntmps15
  go_upto_region 2 with (go_at_call 27; refine Calls.mono (parse_is [40, 49, 44, 40, 48, 44, 49, 41, 41] _ (by decide) P1.out) ?_; rintro e wn ⟨v, rfl, hv, hkk⟩; obtain ⟨o1, q1, rfl, ho1⟩ := hv.shape'; have H1 := Lib.hid hv; clear hv; have hb := hb.trans (hkk.mono hb.size); clear hkk)
  have b1 := Bx.new wn o1 q1
  have H1 := Lib.hid (H1.out.alloc (.cells #[.bool o1, .pointer q1] 31))
  have hb := hb.alloc hb.size (.cells #[.bool o1, .pointer q1] 31)
  generalize wn.alloc (.cells #[.bool o1, .pointer q1] 31) = wz at *
  obtain ⟨X1, eX1⟩ : ∃ X1, wn.heap.size = X1 := ⟨_, rfl⟩
  rw [eX1] at b1 ⊢
  have c10 := b1.c0
  have c11 := b1.c1
  go_upto_region 3 with (go_at_call 49; refine Calls.mono (Spans_any _ H1.out S1.out (by decide)) ?_; rintro e wn ⟨u, rfl, ho, hkk⟩; obtain ⟨ad, cap, rfl, hf⟩ := own_forms ho; have HF := Lib.hid hf; have hb := hb.trans (hkk.mono hb.size); have b1 := b1.below hkk; have H1 := Lib.hid (H1.out.below hkk); clear ho hf hkk; clear c10 c11; have c10 := b1.c0; have c11 := b1.c1)
  rcases HF.out with ⟨_, _, hn⟩ | ⟨g, rfl, hn, hcell⟩
  · cases hn
  have d0 := hcell 0 _ rfl
  have d1 := hcell 1 _ rfl
  simp only [cx] at d0 d1
  simp only [List.length_cons, List.length_nil] at hn ⊢
  clear HF hcell
  go_wp2_with (go_at_call 45; refine Calls.mono (Measure_any _ H1.out S1.out M1.out (by decide)) ?_; rintro e wn ⟨rfl, hkk⟩; have hb := hb.trans (hkk.mono hb.size); clear hkk)
  go_ret
  exact ⟨by trivial, hb⟩
end Go.Proofs.Ytigkjmfkpmehlaa
