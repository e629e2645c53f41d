/- ID.Text. (Printed by wip/ids/text.py.) -/
import Derived.Test.YtigkjmfkpmehlaaSplits
namespace Go.Proofs.Ytigkjmfkpmehlaa
open Go.RowKit

/-- The text of an id. -/
def T.text : T → ByteArray
  | .z => ⟨#[48]⟩
  | .o => ⟨#[49]⟩
  | .n l r => (((⟨#[40]⟩ ++ l.text) ++ ⟨#[44]⟩) ++ r.text) ++ ⟨#[41]⟩

theorem T.text_n (l r : T) : (T.n l r).text.size = 1 + l.text.size + 1 + r.text.size + 1 := by
  simp only [T.text, ByteArray.size_append]
  rfl
theorem T.text_z : T.z.text.size = 1 := rfl
theorem T.text_o : T.o.text.size = 1 := rfl
theorem T.text_size : ∀ t : T, t.text.size + 3 ≤ 4 * 2 ^ t.depth
  | .z => by simp [T.text_z, T.depth]
  | .o => by simp [T.text_o, T.depth]
  | .n l r => by
    have h1 := T.text_size l
    have h2 := T.text_size r
    have h3 : 2 ^ l.depth ≤ 2 ^ (max l.depth r.depth) := Nat.pow_le_pow_right (by omega) (by omega)
    have h4 : 2 ^ r.depth ≤ 2 ^ (max l.depth r.depth) := Nat.pow_le_pow_right (by omega) (by omega)
    rw [T.text_n]
    simp only [T.depth, Nat.pow_add]
    omega

set_option maxHeartbeats 1600000 in
theorem text_any : ∀ {t : T} {v : Value} (w : World), t.text.size ≤ 9223372036854775807 → IDV w t v → Calls Try.prog 30 #[v] w fun e w' => e = .returned (.string t.text) ∧ Below w.heap.size w w'
  | .z, v, w, _, h => by
    obtain ⟨oa, p, rfl, ho⟩ := h.shape'
    obtain rfl : oa = false := ho.symm
    have HV := Lib.hid h
    clear h
    have b1 := Bx.new w false p
    have hb := bel0 w (.cells #[.bool false, .pointer p] 31)
    go_enter Try.func30, Try.ntmps30
    go_wp2_with fail
    generalize w.alloc (.cells #[.bool false, .pointer p] 31) = w3 at *
    obtain ⟨B, hB⟩ : ∃ B, w.heap.size = B := ⟨_, rfl⟩
    rw [hB] at b1 ⊢
    have c10 := b1.c0
    have c11 := b1.c1
    have f10 := b1.f0
    have f11 := b1.f1
    have n1 := b1.ne
    have l1 := b1.lt
    go_wp2_with (first
      | (go_at_call_of 24 (Value.agg #[Value.bool false, Value.pointer p]); refine (isZero_is _ (HV.out.below hb) (rfl : _ = true)).mono ?_; rintro e wn ⟨rfl, hk⟩; have hb := hb.trans (hk.mono hb.size); have b1 := b1.below hk; have c10 := b1.c0; have c11 := b1.c1; have f10 := b1.f0; have f11 := b1.f1; have n1 := b1.ne; have l1 := b1.lt; clear hk))
    go_ret
    exact ⟨rfl, by first | exact hb | (rw [← hB]; exact hb)⟩
  | .o, v, w, _, h => by
    obtain ⟨oa, p, rfl, ho⟩ := h.shape'
    obtain rfl : oa = true := ho.symm
    have HV := Lib.hid h
    clear h
    have b1 := Bx.new w true p
    have hb := bel0 w (.cells #[.bool true, .pointer p] 31)
    go_enter Try.func30, Try.ntmps30
    go_wp2_with fail
    generalize w.alloc (.cells #[.bool true, .pointer p] 31) = w3 at *
    obtain ⟨B, hB⟩ : ∃ B, w.heap.size = B := ⟨_, rfl⟩
    rw [hB] at b1 ⊢
    have c10 := b1.c0
    have c11 := b1.c1
    have f10 := b1.f0
    have f11 := b1.f1
    have n1 := b1.ne
    have l1 := b1.lt
    go_wp2_with (first
      | (go_at_call_of 24 (Value.agg #[Value.bool true, Value.pointer p]); refine (isZero_is _ (HV.out.below hb) (rfl : _ = false)).mono ?_; rintro e wn ⟨rfl, hk⟩; have hb := hb.trans (hk.mono hb.size); have b1 := b1.below hk; have c10 := b1.c0; have c11 := b1.c1; have f10 := b1.f0; have f11 := b1.f1; have n1 := b1.ne; have l1 := b1.lt; clear hk)
      | (go_at_call_of 25 (Value.agg #[Value.bool true, Value.pointer p]); refine (isOne_is _ (HV.out.below hb) (rfl : _ = true)).mono ?_; rintro e wn ⟨rfl, hk⟩; have hb := hb.trans (hk.mono hb.size); have b1 := b1.below hk; have c10 := b1.c0; have c11 := b1.c1; have f10 := b1.f0; have f11 := b1.f1; have n1 := b1.ne; have l1 := b1.lt; clear hk))
    go_ret
    exact ⟨rfl, by first | exact hb | (rw [← hB]; exact hb)⟩
  | .n l r, v, w, hz, h => by
    rw [T.text_n] at hz
    have e1 : ¬ 9223372036854775807 < 1 + l.text.size := by omega
    have e2 : ¬ 9223372036854775807 < 1 + l.text.size + 1 := by omega
    have e3 : ¬ 9223372036854775807 < 1 + l.text.size + 1 + r.text.size := by omega
    have e4 : ¬ 9223372036854775807 < 1 + l.text.size + 1 + r.text.size + 1 := by omega
    have i1 := fun (vx : Value) (wx : World) hx => text_any (t := l) (v := vx) wx (by omega) hx
    have i2 := fun (vx : Value) (wx : World) hx => text_any (t := r) (v := vx) wx (by omega) hx
    have I1 := Lib.hid i1
    have I2 := Lib.hid i2
    clear i1 i2
    obtain ⟨b, x, px, y, py, rfl, hn, hl1, hl2, _, _⟩ := h.node
    have HL1 := Lib.hid hl1
    have HL2 := Lib.hid hl2
    have HV := Lib.hid h
    have HN := Lib.hid hn
    clear h hl1 hl2 hn
    have b1 := Bx.new w false (some ⟨b, 0, none⟩)
    have hb := bel0 w (.cells #[.bool false, .pointer (some ⟨b, 0, none⟩)] 31)
    go_enter Try.func30, Try.ntmps30
    go_wp2_with fail
    generalize w.alloc (.cells #[.bool false, .pointer (some ⟨b, 0, none⟩)] 31) = w3 at *
    obtain ⟨B, hB⟩ : ∃ B, w.heap.size = B := ⟨_, rfl⟩
    rw [hB] at b1 ⊢
    have c10 := b1.c0
    have c11 := b1.c1
    have f10 := b1.f0
    have f11 := b1.f1
    have n1 := b1.ne
    have l1 := b1.lt
    go_upto_region 5 with (first
      | (go_at_call_of 24 (Value.agg #[Value.bool false, Value.pointer (some ⟨b, 0, none⟩)]); refine (isZero_is _ (HV.out.below hb) (rfl : _ = false)).mono ?_; rintro e wn ⟨rfl, hk⟩; have hb := hb.trans (hk.mono hb.size); have b1 := b1.below hk; have c10 := b1.c0; have c11 := b1.c1; have f10 := b1.f0; have f11 := b1.f1; have n1 := b1.ne; have l1 := b1.lt; clear hk)
      | (go_at_call_of 25 (Value.agg #[Value.bool false, Value.pointer (some ⟨b, 0, none⟩)]); refine (isOne_is _ (HV.out.below hb) (rfl : _ = false)).mono ?_; rintro e wn ⟨rfl, hk⟩; have hb := hb.trans (hk.mono hb.size); have b1 := b1.below hk; have c10 := b1.c0; have c11 := b1.c1; have f10 := b1.f0; have f11 := b1.f1; have n1 := b1.ne; have l1 := b1.lt; clear hk))
    have hn := HN.out.below hb
    have hb := bdrew hb
    have b1 : Bx wn.drew B false (some ⟨b, 0, none⟩) := b1
    have hn : Nd wn.drew b x px y py := hn
    go_region_held3 (fun w' => w'.cell? ⟨B, 1, none⟩ = some (.pointer (some ⟨b, 0, none⟩)) ∧ w'.cell? ⟨b, 0, none⟩ = some (.bool x) ∧ w'.cell? ⟨b, 1, none⟩ = some (.pointer px) ∧ w'.cell? ⟨b, 2, none⟩ = some (.bool y) ∧ w'.cell? ⟨b, 3, none⟩ = some (.pointer py)) (exact ⟨b1.c1, hn.c0, hn.c1, hn.c2, hn.c3⟩)
      (first
        | (go_at_call_of 30 (Value.agg #[Value.bool x, Value.pointer px]); refine Calls.mono (I1.out _ _ (HL1.out.below hb)) ?_; rintro e wn ⟨rfl, hk⟩; have hb := hb.trans (hk.mono hb.size); have b1 := b1.below hk; have hn := hn.below hk; clear hk)
        | (go_at_call_of 30 (Value.agg #[Value.bool y, Value.pointer py]); refine Calls.mono (I2.out _ _ (HL2.out.below hb)) ?_; rintro e wn ⟨rfl, hk⟩; have hb := hb.trans (hk.mono hb.size); have b1 := b1.below hk; have hn := hn.below hk; clear hk))
    go_wp2_with fail
    go_ret
    exact ⟨rfl, by first | exact hb | (rw [← hB]; exact hb)⟩
end Go.Proofs.Ytigkjmfkpmehlaa
