/- awake (of kinfolklaw01): its example holds. (Printed by wip/ids/awake.py.) -/
import Derived.Test.YtigkjmfkpmehlaaParse
namespace Go.Proofs.Ytigkjmfkpmehlaa
open Go.RowKit

def T.str : T → List UInt8
  | .z => [48]
  | .o => [49]
  | .n l r => 40 :: (l.str ++ (44 :: (r.str ++ [41])))
theorem text_str : ∀ t : T, t.text = bs t.str
  | .z => rfl
  | .o => rfl
  | .n l r => by
    have h1 : (⟨#[40]⟩ : ByteArray) = bs [40] := rfl
    have h2 : (⟨#[44]⟩ : ByteArray) = bs [44] := rfl
    have h3 : (⟨#[41]⟩ : ByteArray) = bs [41] := rfl
    simp only [T.text, T.str]
    rw [text_str l, text_str r, h1, h2, h3, bs_append, bs_append, bs_append, bs_append]
    simp
theorem parse_is (l : List UInt8) {t : T} {k : Int} (w : World) (hl : l.length ≤ 100000) (hp : parseR l = (t, k)) : Calls Try.prog 27 #[.string (bs l)] w fun e w' => ∃ v, e = .returned (.tuple #[v, .int .i64 k]) ∧ IDV w' t v ∧ Below w.heap.size w w' := by
  have := parse_any l w hl
  rw [hp] at this
  exact this
theorem split_is {t a b : T} {k : Int} {v : Value} (w : World) (h : IDV w t v) (hd : t.depth ≤ 100000) (hp : splitR t = (a, b, k)) : Calls Try.prog 19 #[v] w fun e w' => ∃ v1 v2, e = .returned (.tuple #[v1, v2, .int .i64 k]) ∧ IDV w' a v1 ∧ IDV w' b v2 ∧ Below w.heap.size w w' := by
  have := Split_any w h hd
  rw [hp] at this
  exact this
theorem sum_is {s t a : T} {k : Int} {u v : Value} (w : World) (h : IDV w s u) (h' : IDV w t v) (hp : sumR s t = (a, k)) : Calls Try.prog 23 #[u, v] w fun e w' => ∃ v, e = .returned (.tuple #[v, .int .i64 k]) ∧ IDV w' a v ∧ Below w.heap.size w w' := by
  have := Sum_any w h h'
  rw [hp] at this
  exact this
theorem text_is {t : T} {v : Value} {s : ByteArray} (w : World) (h : IDV w t v) (hs : t.text = s) (hz : t.text.size ≤ 9223372036854775807) : Calls Try.prog 30 #[v] w fun e w' => e = .returned (.string s) ∧ Below w.heap.size w w' := by
  subst hs
  exact text_any w hz h

set_option maxHeartbeats 1600000 in
theorem awake_any (w : World) : Calls Try.prog 17 #[] w fun e w' => e = .returned (.bool true) ∧ Below w.heap.size w w' := by
  have P1 := Lib.hid (show parseR [40, 48, 44, 49, 41] = ((T.n .z .o), 0) by decide)
  have P2 := Lib.hid (show splitR (T.n .z .o) = ((T.n .z (.n .o .z)), (T.n .z (.n .z .o)), 0) by decide)
  have P3 := Lib.hid (show sumR (T.n .z (.n .o .z)) (T.n .z (.n .z .o)) = ((T.n .z .o), 0) by decide)
  have T1 := Lib.hid (show T.text (T.n .z (.n .o .z)) = (⟨#[40, 48, 44, 40, 49, 44, 48, 41, 41]⟩ : ByteArray) by rw [text_str]; rfl)
  have T2 := Lib.hid (show T.text (T.n .z (.n .z .o)) = (⟨#[40, 48, 44, 40, 48, 44, 49, 41, 41]⟩ : ByteArray) by rw [text_str]; rfl)
  have T3 := Lib.hid (show T.text (T.n .z .o) = (⟨#[40, 48, 44, 49, 41]⟩ : ByteArray) by rw [text_str]; rfl)
  have hb := Below.refl w.heap.size w
  go_enter Try.func17, Try.ntmps17
  go_upto_region 2 with (go_at_call 27; refine Calls.mono (parse_is [40, 48, 44, 49, 41] _ (by decide) P1.out) ?_; rintro e wn ⟨v, rfl, hv, hk⟩; obtain ⟨o1, q1, rfl, ho1⟩ := hv.shape'; have H1 := Lib.hid hv; clear hv; have hb := hb.trans (hk.mono hb.size); clear hk)
  have b1 := Bx.new wn o1 q1
  have H1 := Lib.hid (H1.out.alloc (.cells #[.bool o1, .pointer q1] 31))
  have hb := hb.alloc hb.size (.cells #[.bool o1, .pointer q1] 31)
  generalize wn.alloc (.cells #[.bool o1, .pointer q1] 31) = wz at *
  obtain ⟨X1, eX1⟩ : ∃ X1, wn.heap.size = X1 := ⟨_, rfl⟩
  rw [eX1] at b1 ⊢
  have c10 := b1.c0
  have c11 := b1.c1
  go_upto_region 3 with (go_at_call 19; refine Calls.mono (split_is _ H1.out (by decide) P2.out) ?_; rintro e wn ⟨v, v2, rfl, hv, hv2, hk⟩; obtain ⟨o2, q2, rfl, ho2⟩ := hv.shape'; have H2 := Lib.hid hv; clear hv; obtain ⟨o3, q3, rfl, ho3⟩ := hv2.shape'; have H3 := Lib.hid hv2; clear hv2; have hb := hb.trans (hk.mono hb.size); clear hk)
  have b2 := (Bx.new wn o2 q2).alloc (.cells #[.bool o3, .pointer q3] 31)
  have b3 := Bx.new1 wn o3 q3 (.cells #[.bool o2, .pointer q2] 31)
  have H2 := Lib.hid ((H2.out.alloc (.cells #[.bool o2, .pointer q2] 31)).alloc (.cells #[.bool o3, .pointer q3] 31))
  have H3 := Lib.hid ((H3.out.alloc (.cells #[.bool o2, .pointer q2] 31)).alloc (.cells #[.bool o3, .pointer q3] 31))
  have hb := (hb.alloc hb.size (.cells #[.bool o2, .pointer q2] 31)).alloc (by simp only [asz]; have := hb.size; omega) (.cells #[.bool o3, .pointer q3] 31)
  generalize (wn.alloc (.cells #[.bool o2, .pointer q2] 31)).alloc (.cells #[.bool o3, .pointer q3] 31) = wz at *
  obtain ⟨X2, eX2⟩ : ∃ X2, wn.heap.size = X2 := ⟨_, rfl⟩
  rw [eX2] at b2 b3 ⊢
  obtain ⟨X3, eX3⟩ : ∃ X3, X2 + 1 = X3 := ⟨_, rfl⟩
  rw [eX3] at b3 ⊢
  have c20 := b2.c0
  have c21 := b2.c1
  have c30 := b3.c0
  have c31 := b3.c1
  go_upto_region 4 with (go_at_call 23; refine Calls.mono (sum_is _ H2.out H3.out P3.out) ?_; rintro e wn ⟨v, rfl, hv, hk⟩; obtain ⟨o4, q4, rfl, ho4⟩ := hv.shape'; have H4 := Lib.hid hv; clear hv; have hb := hb.trans (hk.mono hb.size); have b2 := b2.below hk; have b3 := b3.below hk; have H2 := Lib.hid (H2.out.below hk); have H3 := Lib.hid (H3.out.below hk); clear hk)
  have b4 := Bx.new wn o4 q4
  have b2 := b2.alloc (.cells #[.bool o4, .pointer q4] 31)
  have b3 := b3.alloc (.cells #[.bool o4, .pointer q4] 31)
  have H2 := Lib.hid (H2.out.alloc (.cells #[.bool o4, .pointer q4] 31))
  have H3 := Lib.hid (H3.out.alloc (.cells #[.bool o4, .pointer q4] 31))
  have H4 := Lib.hid (H4.out.alloc (.cells #[.bool o4, .pointer q4] 31))
  have hb := hb.alloc hb.size (.cells #[.bool o4, .pointer q4] 31)
  generalize wn.alloc (.cells #[.bool o4, .pointer q4] 31) = wz at *
  obtain ⟨X4, eX4⟩ : ∃ X4, wn.heap.size = X4 := ⟨_, rfl⟩
  rw [eX4] at b4 ⊢
  have c20 := b2.c0
  have c21 := b2.c1
  have c30 := b3.c0
  have c31 := b3.c1
  have c40 := b4.c0
  have c41 := b4.c1
  go_wp2_with (first
    | (go_at_call_of 30 (Value.agg #[Value.bool o2, Value.pointer q2]); refine Calls.mono (text_is _ H2.out T1.out (by rw [T1.out]; decide)) ?_; rintro e wn ⟨rfl, hk⟩; have hb := hb.trans (hk.mono hb.size); have b2 := b2.below hk; have b3 := b3.below hk; have b4 := b4.below hk; have H2 := Lib.hid (H2.out.below hk); have H3 := Lib.hid (H3.out.below hk); have H4 := Lib.hid (H4.out.below hk); have c20 := b2.c0; have c21 := b2.c1; have c30 := b3.c0; have c31 := b3.c1; have c40 := b4.c0; have c41 := b4.c1; clear hk)
    | (go_at_call_of 30 (Value.agg #[Value.bool o3, Value.pointer q3]); refine Calls.mono (text_is _ H3.out T2.out (by rw [T2.out]; decide)) ?_; rintro e wn ⟨rfl, hk⟩; have hb := hb.trans (hk.mono hb.size); have b2 := b2.below hk; have b3 := b3.below hk; have b4 := b4.below hk; have H2 := Lib.hid (H2.out.below hk); have H3 := Lib.hid (H3.out.below hk); have H4 := Lib.hid (H4.out.below hk); have c20 := b2.c0; have c21 := b2.c1; have c30 := b3.c0; have c31 := b3.c1; have c40 := b4.c0; have c41 := b4.c1; clear hk)
    | (go_at_call_of 30 (Value.agg #[Value.bool o4, Value.pointer q4]); refine Calls.mono (text_is _ H4.out T3.out (by rw [T3.out]; decide)) ?_; rintro e wn ⟨rfl, hk⟩; have hb := hb.trans (hk.mono hb.size); have b2 := b2.below hk; have b3 := b3.below hk; have b4 := b4.below hk; have H2 := Lib.hid (H2.out.below hk); have H3 := Lib.hid (H3.out.below hk); have H4 := Lib.hid (H4.out.below hk); have c20 := b2.c0; have c21 := b2.c1; have c30 := b3.c0; have c31 := b3.c1; have c40 := b4.c0; have c41 := b4.c1; clear hk))
  go_ret
  exact ⟨by trivial, hb⟩
end Go.Proofs.Ytigkjmfkpmehlaa
