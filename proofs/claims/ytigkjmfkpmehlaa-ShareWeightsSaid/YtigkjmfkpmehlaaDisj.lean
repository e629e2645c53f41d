/- id.Disjoint, Covers. (Printed by wip/ids/disjtest.py.) -/
import Derived.Test.YtigkjmfkpmehlaaDepth
namespace Go.Proofs.Ytigkjmfkpmehlaa
open Go.RowKit

def T.disj : T → T → Bool
  | .z, _ => true
  | .o, .z => true
  | .n _ _, .z => true
  | .o, .o => false
  | .o, .n _ _ => false
  | .n _ _, .o => false
  | .n a b, .n c d => a.disj c && b.disj d
def T.cov : T → T → Bool
  | .o, _ => true
  | .z, .z => true
  | .n _ _, .z => true
  | .z, .o => false
  | .z, .n _ _ => false
  | .n _ _, .o => false
  | .n a b, .n c d => a.cov c && b.cov d
theorem isZero_is {t : T} {v : Value} {a : Bool} (w : World) (h : IDV w t v) (ha : t.isZ = a) : Calls Try.prog 24 #[v] w fun e w' => e = .returned (.bool a) ∧ Below w.heap.size w w' := by
  subst ha
  exact isZero_any w h
/-- A world of a class. -/
structure InS (S : World → Prop) where
  w : World
  h : S w
theorem region_in {P : Program} {S : World → Prop} {id : Nat} {Q : Exit → Act → World → Prop} {a : Act} {w : World} {l : List Oper} (hm : P.follows .mixedOrders = true) (hB : Region.lexB .any l.toArray = true) (hC : S w.drew)
    (h : wpQuiet P l.toArray (fun w' => ∃ k : InS S, w' = k.w) (fun a' => ∀ w', (∃ k : InS S, w' = k.w) → Q .normal a' w') l a) : (Code.region id l.toArray true).wp P Q a w :=
  wp_region_quiet (C := fun w' => ∃ k : InS S, w' = k.w) hm hB ⟨⟨_, hC⟩, rfl⟩ (by simpa using h)
/-- Two boxes and two pairs stand, and what was before. -/
def DC (w : World) (B D b c : Nat) (x : Bool) (px : Option Addr) (y : Bool) (py : Option Addr) (s : Bool) (ps : Option Addr) (u : Bool) (pu : Option Addr) (w' : World) : Prop :=
  Below w.heap.size w w' ∧ Bx w' B false (some ⟨b, 0, none⟩) ∧ Bx w' D false (some ⟨c, 0, none⟩) ∧ Nd w' b x px y py ∧ Nd w' c s ps u pu
theorem DC.below {w w' w'' : World} {B D b c : Nat} {x : Bool} {px : Option Addr} {y : Bool} {py : Option Addr} {s : Bool} {ps : Option Addr} {u : Bool} {pu : Option Addr} (h : DC w B D b c x px y py s ps u pu w') (hk : Below w'.heap.size w' w'') : DC w B D b c x px y py s ps u pu w'' :=
  ⟨h.1.trans (hk.mono h.1.size), h.2.1.below hk, h.2.2.1.below hk, h.2.2.2.1.below hk, h.2.2.2.2.below hk⟩

set_option maxHeartbeats 2000000 in
theorem disj_step {l r l' r' : T} {vl vr : Value} (w : World) (i1 : ∀ (vx vy : Value) (wx : World), IDV wx l vx → IDV wx l' vy → Calls Try.prog 22 #[vx, vy] wx fun e w' => e = .returned (.bool (T.disj l l')) ∧ Below wx.heap.size wx w')
    (i2 : ∀ (vx vy : Value) (wx : World), IDV wx r vx → IDV wx r' vy → Calls Try.prog 22 #[vx, vy] wx fun e w' => e = .returned (.bool (T.disj r r')) ∧ Below wx.heap.size wx w')
    (hl : IDV w (.n l r) vl) (hr : IDV w (.n l' r') vr) : Calls Try.prog 22 #[vl, vr] w fun e w' => e = .returned (.bool (T.disj (.n l r) (.n l' r'))) ∧ Below w.heap.size w w' := by
  obtain ⟨b, x, px, y, py, rfl, hn0, hl1, hl2, _, _⟩ := hl.node
  obtain ⟨c, s, ps, u, pu, rfl, hm0, hr1, hr2, _, _⟩ := hr.node
  have HL1 := Lib.hid hl1
  have HL2 := Lib.hid hl2
  have HR1 := Lib.hid hr1
  have HR2 := Lib.hid hr2
  have HL := Lib.hid hl
  have HR := Lib.hid hr
  have HN := Lib.hid hn0
  have HM := Lib.hid hm0
  clear hl hr hl1 hl2 hr1 hr2 hn0 hm0
  have h1' : T.disj l l' = true ∨ T.disj l l' = false := by cases T.disj l l' <;> simp
  have I2 := Lib.hid i2
  clear i2
  rcases h1' with h1 | h1
  all_goals
    have ih := i1
    rw [h1] at ih
    have I1 := Lib.hid ih
    have H1 := Lib.hid h1
    clear ih h1 i1
    have b1 := (Bx.new w false (some ⟨b, 0, none⟩)).alloc (.cells #[.bool false, .pointer (some ⟨c, 0, none⟩)] 31)
    have b2 := Bx.new (w.alloc (.cells #[.bool false, .pointer (some ⟨b, 0, none⟩)] 31)) false (some ⟨c, 0, none⟩)
    have hb := (bel0 w (.cells #[.bool false, .pointer (some ⟨b, 0, none⟩)] 31)).alloc (by simp) (.cells #[.bool false, .pointer (some ⟨c, 0, none⟩)] 31)
    simp only [asz] at b2
    go_enter Try.func22, Try.ntmps22
    go_wp2_with fail
    generalize (w.alloc (.cells #[.bool false, .pointer (some ⟨b, 0, none⟩)] 31)).alloc (.cells #[.bool false, .pointer (some ⟨c, 0, none⟩)] 31) = w3 at *
    obtain ⟨B, hB⟩ : ∃ B, w.heap.size = B := ⟨_, rfl⟩
    rw [hB] at b1 b2 ⊢
    obtain ⟨D, hD⟩ : ∃ D, B + 1 = D := ⟨_, rfl⟩
    rw [hD] at b2 ⊢
    have c10 := b1.c0
    have c11 := b1.c1
    go_upto_region 5 with (first
        | (go_at_call_of 24 (Value.agg #[Value.bool false, Value.pointer (some ⟨b, 0, none⟩)]); refine (isZero_is _ (HL.out.below hb) (rfl : _ = false)).mono ?_; rintro e wn ⟨rfl, hk⟩; have hb := hb.trans (hk.mono hb.size); have b1 := b1.below hk; have b2 := b2.below hk; have c10 := b1.c0; have c11 := b1.c1; have f10 := b1.f0; have f11 := b1.f1; have n1 := b1.ne; have l1 := b1.lt; have c20 := b2.c0; have c21 := b2.c1; have f20 := b2.f0; have f21 := b2.f1; have n2 := b2.ne; have l2 := b2.lt; clear hk)
        | (go_at_call_of 24 (Value.agg #[Value.bool false, Value.pointer (some ⟨c, 0, none⟩)]); refine (isZero_is _ (HR.out.below hb) (rfl : _ = false)).mono ?_; rintro e wn ⟨rfl, hk⟩; have hb := hb.trans (hk.mono hb.size); have b1 := b1.below hk; have b2 := b2.below hk; have c10 := b1.c0; have c11 := b1.c1; have f10 := b1.f0; have f11 := b1.f1; have n1 := b1.ne; have l1 := b1.lt; have c20 := b2.c0; have c21 := b2.c1; have f20 := b2.f0; have f21 := b2.f1; have n2 := b2.ne; have l2 := b2.lt; clear hk)
        | (go_at_call_of 25 (Value.agg #[Value.bool false, Value.pointer (some ⟨b, 0, none⟩)]); refine (isOne_is _ (HL.out.below hb) (rfl : _ = false)).mono ?_; rintro e wn ⟨rfl, hk⟩; have hb := hb.trans (hk.mono hb.size); have b1 := b1.below hk; have b2 := b2.below hk; have c10 := b1.c0; have c11 := b1.c1; have f10 := b1.f0; have f11 := b1.f1; have n1 := b1.ne; have l1 := b1.lt; have c20 := b2.c0; have c21 := b2.c1; have f20 := b2.f0; have f21 := b2.f1; have n2 := b2.ne; have l2 := b2.lt; clear hk)
        | (go_at_call_of 25 (Value.agg #[Value.bool false, Value.pointer (some ⟨c, 0, none⟩)]); refine (isOne_is _ (HR.out.below hb) (rfl : _ = false)).mono ?_; rintro e wn ⟨rfl, hk⟩; have hb := hb.trans (hk.mono hb.size); have b1 := b1.below hk; have b2 := b2.below hk; have c10 := b1.c0; have c11 := b1.c1; have f10 := b1.f0; have f11 := b1.f1; have n1 := b1.ne; have l1 := b1.lt; have c20 := b2.c0; have c21 := b2.c1; have f20 := b2.f0; have f21 := b2.f1; have n2 := b2.ne; have l2 := b2.lt; clear hk))
    have hn := HN.out.below hb
    have hm := HM.out.below hb
    have hb := bdrew hb
    have b1 : Bx wn.drew B false (some ⟨b, 0, none⟩) := b1
    have b2 : Bx wn.drew D false (some ⟨c, 0, none⟩) := b2
    have hn : Nd wn.drew b x px y py := hn
    have hm : Nd wn.drew c s ps u pu := hm
    have hc1 : ∀ k : InS (DC w B D b c x px y py s ps u pu), k.w.cell? ⟨B, 1, none⟩ = some (.pointer (some ⟨b, 0, none⟩)) := fun k => k.h.2.1.c1
    have hc2 : ∀ k : InS (DC w B D b c x px y py s ps u pu), k.w.cell? ⟨D, 1, none⟩ = some (.pointer (some ⟨c, 0, none⟩)) := fun k => k.h.2.2.1.c1
    have hn0 : ∀ k : InS (DC w B D b c x px y py s ps u pu), k.w.cell? ⟨b, 0, none⟩ = some (.bool x) := fun k => k.h.2.2.2.1.c0
    have hn1 : ∀ k : InS (DC w B D b c x px y py s ps u pu), k.w.cell? ⟨b, 1, none⟩ = some (.pointer px) := fun k => k.h.2.2.2.1.c1
    have hn2 : ∀ k : InS (DC w B D b c x px y py s ps u pu), k.w.cell? ⟨b, 2, none⟩ = some (.bool y) := fun k => k.h.2.2.2.1.c2
    have hn3 : ∀ k : InS (DC w B D b c x px y py s ps u pu), k.w.cell? ⟨b, 3, none⟩ = some (.pointer py) := fun k => k.h.2.2.2.1.c3
    have hm0 : ∀ k : InS (DC w B D b c x px y py s ps u pu), k.w.cell? ⟨c, 0, none⟩ = some (.bool s) := fun k => k.h.2.2.2.2.c0
    have hm1 : ∀ k : InS (DC w B D b c x px y py s ps u pu), k.w.cell? ⟨c, 1, none⟩ = some (.pointer ps) := fun k => k.h.2.2.2.2.c1
    have hm2 : ∀ k : InS (DC w B D b c x px y py s ps u pu), k.w.cell? ⟨c, 2, none⟩ = some (.bool u) := fun k => k.h.2.2.2.2.c2
    have hm3 : ∀ k : InS (DC w B D b c x px y py s ps u pu), k.w.cell? ⟨c, 3, none⟩ = some (.pointer pu) := fun k => k.h.2.2.2.2.c3
    refine region_in (S := DC w B D b c x px y py s ps u pu) (by kernel_rfl) (by kernel_rfl) ⟨hb, b1, b2, hn, hm⟩ ?_
    have hne : Nonempty (InS (DC w B D b c x px y py s ps u pu)) := ⟨⟨wn.drew, hb, b1, b2, hn, hm⟩⟩
    clear b1 b2 hn hm hb
    repeat (go_big_quiet_step ((first
      | (go_at_call_of 22 (Value.agg #[Value.bool x, Value.pointer px]); rename_i kk; refine Calls.mono (I1.out _ _ _ (HL1.out.below kk.h.1) (HR1.out.below kk.h.1)) ?_; rintro e wn ⟨rfl, hk⟩; exact ⟨rfl, ⟨wn, kk.h.below hk⟩, rfl⟩)
      | (go_at_call_of 22 (Value.agg #[Value.bool y, Value.pointer py]); rename_i kk; refine Calls.mono (I2.out _ _ _ (HL2.out.below kk.h.1) (HR2.out.below kk.h.1)) ?_; rintro e wn ⟨rfl, hk⟩; exact ⟨rfl, ⟨wn, kk.h.below hk⟩, rfl⟩))))
    refine wpQuiet_nil ?_
    rintro _ ⟨⟨wk, hk⟩, rfl⟩
    go_wp2_with fail
    go_ret
    exact ⟨by simp [T.disj, H1.out], by first | exact hk.1 | (rw [← hB]; exact hk.1)⟩

set_option maxHeartbeats 2000000 in
theorem disj_any : ∀ {a b : T} {vl vr : Value} (w : World), IDV w a vl → IDV w b vr → Calls Try.prog 22 #[vl, vr] w fun e w' => e = .returned (.bool (a.disj b)) ∧ Below w.heap.size w w'
  | .z, b, vl, vr, w, hl, hr => by
    obtain ⟨oa, pl, rfl, hol⟩ := hl.shape'
    obtain ⟨ob, pr, rfl, hor⟩ := hr.shape'
    obtain rfl : oa = false := hol.symm
    have HL := Lib.hid hl
    have HR := Lib.hid hr
    clear hl hr
    have b1 := (Bx.new w false pl).alloc (.cells #[.bool ob, .pointer pr] 31)
    have b2 := Bx.new (w.alloc (.cells #[.bool false, .pointer pl] 31)) ob pr
    have hb := (bel0 w (.cells #[.bool false, .pointer pl] 31)).alloc (by simp) (.cells #[.bool ob, .pointer pr] 31)
    simp only [asz] at b2
    go_enter Try.func22, Try.ntmps22
    go_wp2_with fail
    generalize (w.alloc (.cells #[.bool false, .pointer pl] 31)).alloc (.cells #[.bool ob, .pointer pr] 31) = w3 at *
    obtain ⟨B, hB⟩ : ∃ B, w.heap.size = B := ⟨_, rfl⟩
    rw [hB] at b1 b2 ⊢
    obtain ⟨D, hD⟩ : ∃ D, B + 1 = D := ⟨_, rfl⟩
    rw [hD] at b2 ⊢
    have c10 := b1.c0
    have c11 := b1.c1
    go_wp2_with (first
      | (go_at_call_of 24 (Value.agg #[Value.bool false, Value.pointer pl]); refine (isZero_is _ (HL.out.below hb) (rfl : _ = true)).mono ?_; rintro e wn ⟨rfl, hk⟩; have hb := hb.trans (hk.mono hb.size); have b1 := b1.below hk; have b2 := b2.below hk; have c10 := b1.c0; have c11 := b1.c1; have f10 := b1.f0; have f11 := b1.f1; have n1 := b1.ne; have l1 := b1.lt; have c20 := b2.c0; have c21 := b2.c1; have f20 := b2.f0; have f21 := b2.f1; have n2 := b2.ne; have l2 := b2.lt; clear hk))
    go_ret
    exact ⟨rfl, by first | exact hb | (rw [← hB]; exact hb)⟩
  | .o, .z, vl, vr, w, hl, hr => by
    obtain ⟨oa, pl, rfl, hol⟩ := hl.shape'
    obtain ⟨ob, pr, rfl, hor⟩ := hr.shape'
    obtain rfl : oa = true := hol.symm
    obtain rfl : ob = false := hor.symm
    have HL := Lib.hid hl
    have HR := Lib.hid hr
    clear hl hr
    have b1 := (Bx.new w true pl).alloc (.cells #[.bool false, .pointer pr] 31)
    have b2 := Bx.new (w.alloc (.cells #[.bool true, .pointer pl] 31)) false pr
    have hb := (bel0 w (.cells #[.bool true, .pointer pl] 31)).alloc (by simp) (.cells #[.bool false, .pointer pr] 31)
    simp only [asz] at b2
    go_enter Try.func22, Try.ntmps22
    go_wp2_with fail
    generalize (w.alloc (.cells #[.bool true, .pointer pl] 31)).alloc (.cells #[.bool false, .pointer pr] 31) = w3 at *
    obtain ⟨B, hB⟩ : ∃ B, w.heap.size = B := ⟨_, rfl⟩
    rw [hB] at b1 b2 ⊢
    obtain ⟨D, hD⟩ : ∃ D, B + 1 = D := ⟨_, rfl⟩
    rw [hD] at b2 ⊢
    have c10 := b1.c0
    have c11 := b1.c1
    go_wp2_with (first
      | (go_at_call_of 24 (Value.agg #[Value.bool true, Value.pointer pl]); refine (isZero_is _ (HL.out.below hb) (rfl : _ = false)).mono ?_; rintro e wn ⟨rfl, hk⟩; have hb := hb.trans (hk.mono hb.size); have b1 := b1.below hk; have b2 := b2.below hk; have c10 := b1.c0; have c11 := b1.c1; have f10 := b1.f0; have f11 := b1.f1; have n1 := b1.ne; have l1 := b1.lt; have c20 := b2.c0; have c21 := b2.c1; have f20 := b2.f0; have f21 := b2.f1; have n2 := b2.ne; have l2 := b2.lt; clear hk)
      | (go_at_call_of 24 (Value.agg #[Value.bool false, Value.pointer pr]); refine (isZero_is _ (HR.out.below hb) (rfl : _ = true)).mono ?_; rintro e wn ⟨rfl, hk⟩; have hb := hb.trans (hk.mono hb.size); have b1 := b1.below hk; have b2 := b2.below hk; have c10 := b1.c0; have c11 := b1.c1; have f10 := b1.f0; have f11 := b1.f1; have n1 := b1.ne; have l1 := b1.lt; have c20 := b2.c0; have c21 := b2.c1; have f20 := b2.f0; have f21 := b2.f1; have n2 := b2.ne; have l2 := b2.lt; clear hk))
    go_ret
    exact ⟨rfl, by first | exact hb | (rw [← hB]; exact hb)⟩
  | .n l r, .z, vl, vr, w, hl, hr => by
    obtain ⟨oa, pl, rfl, hol⟩ := hl.shape'
    obtain ⟨ob, pr, rfl, hor⟩ := hr.shape'
    obtain rfl : oa = false := hol.symm
    obtain rfl : ob = false := hor.symm
    have HL := Lib.hid hl
    have HR := Lib.hid hr
    clear hl hr
    have b1 := (Bx.new w false pl).alloc (.cells #[.bool false, .pointer pr] 31)
    have b2 := Bx.new (w.alloc (.cells #[.bool false, .pointer pl] 31)) false pr
    have hb := (bel0 w (.cells #[.bool false, .pointer pl] 31)).alloc (by simp) (.cells #[.bool false, .pointer pr] 31)
    simp only [asz] at b2
    go_enter Try.func22, Try.ntmps22
    go_wp2_with fail
    generalize (w.alloc (.cells #[.bool false, .pointer pl] 31)).alloc (.cells #[.bool false, .pointer pr] 31) = w3 at *
    obtain ⟨B, hB⟩ : ∃ B, w.heap.size = B := ⟨_, rfl⟩
    rw [hB] at b1 b2 ⊢
    obtain ⟨D, hD⟩ : ∃ D, B + 1 = D := ⟨_, rfl⟩
    rw [hD] at b2 ⊢
    have c10 := b1.c0
    have c11 := b1.c1
    go_wp2_with (first
      | (go_at_call_of 24 (Value.agg #[Value.bool false, Value.pointer pl]); refine (isZero_is _ (HL.out.below hb) (rfl : _ = false)).mono ?_; rintro e wn ⟨rfl, hk⟩; have hb := hb.trans (hk.mono hb.size); have b1 := b1.below hk; have b2 := b2.below hk; have c10 := b1.c0; have c11 := b1.c1; have f10 := b1.f0; have f11 := b1.f1; have n1 := b1.ne; have l1 := b1.lt; have c20 := b2.c0; have c21 := b2.c1; have f20 := b2.f0; have f21 := b2.f1; have n2 := b2.ne; have l2 := b2.lt; clear hk)
      | (go_at_call_of 24 (Value.agg #[Value.bool false, Value.pointer pr]); refine (isZero_is _ (HR.out.below hb) (rfl : _ = true)).mono ?_; rintro e wn ⟨rfl, hk⟩; have hb := hb.trans (hk.mono hb.size); have b1 := b1.below hk; have b2 := b2.below hk; have c10 := b1.c0; have c11 := b1.c1; have f10 := b1.f0; have f11 := b1.f1; have n1 := b1.ne; have l1 := b1.lt; have c20 := b2.c0; have c21 := b2.c1; have f20 := b2.f0; have f21 := b2.f1; have n2 := b2.ne; have l2 := b2.lt; clear hk))
    go_ret
    exact ⟨rfl, by first | exact hb | (rw [← hB]; exact hb)⟩
  | .o, .o, vl, vr, w, hl, hr => by
    obtain ⟨oa, pl, rfl, hol⟩ := hl.shape'
    obtain ⟨ob, pr, rfl, hor⟩ := hr.shape'
    obtain rfl : oa = true := hol.symm
    obtain rfl : ob = true := hor.symm
    have HL := Lib.hid hl
    have HR := Lib.hid hr
    clear hl hr
    have b1 := (Bx.new w true pl).alloc (.cells #[.bool true, .pointer pr] 31)
    have b2 := Bx.new (w.alloc (.cells #[.bool true, .pointer pl] 31)) true pr
    have hb := (bel0 w (.cells #[.bool true, .pointer pl] 31)).alloc (by simp) (.cells #[.bool true, .pointer pr] 31)
    simp only [asz] at b2
    go_enter Try.func22, Try.ntmps22
    go_wp2_with fail
    generalize (w.alloc (.cells #[.bool true, .pointer pl] 31)).alloc (.cells #[.bool true, .pointer pr] 31) = w3 at *
    obtain ⟨B, hB⟩ : ∃ B, w.heap.size = B := ⟨_, rfl⟩
    rw [hB] at b1 b2 ⊢
    obtain ⟨D, hD⟩ : ∃ D, B + 1 = D := ⟨_, rfl⟩
    rw [hD] at b2 ⊢
    have c10 := b1.c0
    have c11 := b1.c1
    go_wp2_with (first
      | (go_at_call_of 24 (Value.agg #[Value.bool true, Value.pointer pl]); refine (isZero_is _ (HL.out.below hb) (rfl : _ = false)).mono ?_; rintro e wn ⟨rfl, hk⟩; have hb := hb.trans (hk.mono hb.size); have b1 := b1.below hk; have b2 := b2.below hk; have c10 := b1.c0; have c11 := b1.c1; have f10 := b1.f0; have f11 := b1.f1; have n1 := b1.ne; have l1 := b1.lt; have c20 := b2.c0; have c21 := b2.c1; have f20 := b2.f0; have f21 := b2.f1; have n2 := b2.ne; have l2 := b2.lt; clear hk)
      | (go_at_call_of 24 (Value.agg #[Value.bool true, Value.pointer pr]); refine (isZero_is _ (HR.out.below hb) (rfl : _ = false)).mono ?_; rintro e wn ⟨rfl, hk⟩; have hb := hb.trans (hk.mono hb.size); have b1 := b1.below hk; have b2 := b2.below hk; have c10 := b1.c0; have c11 := b1.c1; have f10 := b1.f0; have f11 := b1.f1; have n1 := b1.ne; have l1 := b1.lt; have c20 := b2.c0; have c21 := b2.c1; have f20 := b2.f0; have f21 := b2.f1; have n2 := b2.ne; have l2 := b2.lt; clear hk)
      | (go_at_call_of 25 (Value.agg #[Value.bool true, Value.pointer pl]); refine (isOne_is _ (HL.out.below hb) (rfl : _ = true)).mono ?_; rintro e wn ⟨rfl, hk⟩; have hb := hb.trans (hk.mono hb.size); have b1 := b1.below hk; have b2 := b2.below hk; have c10 := b1.c0; have c11 := b1.c1; have f10 := b1.f0; have f11 := b1.f1; have n1 := b1.ne; have l1 := b1.lt; have c20 := b2.c0; have c21 := b2.c1; have f20 := b2.f0; have f21 := b2.f1; have n2 := b2.ne; have l2 := b2.lt; clear hk))
    go_ret
    exact ⟨rfl, by first | exact hb | (rw [← hB]; exact hb)⟩
  | .o, .n l' r', vl, vr, w, hl, hr => by
    obtain ⟨oa, pl, rfl, hol⟩ := hl.shape'
    obtain ⟨ob, pr, rfl, hor⟩ := hr.shape'
    obtain rfl : oa = true := hol.symm
    obtain rfl : ob = false := hor.symm
    have HL := Lib.hid hl
    have HR := Lib.hid hr
    clear hl hr
    have b1 := (Bx.new w true pl).alloc (.cells #[.bool false, .pointer pr] 31)
    have b2 := Bx.new (w.alloc (.cells #[.bool true, .pointer pl] 31)) false pr
    have hb := (bel0 w (.cells #[.bool true, .pointer pl] 31)).alloc (by simp) (.cells #[.bool false, .pointer pr] 31)
    simp only [asz] at b2
    go_enter Try.func22, Try.ntmps22
    go_wp2_with fail
    generalize (w.alloc (.cells #[.bool true, .pointer pl] 31)).alloc (.cells #[.bool false, .pointer pr] 31) = w3 at *
    obtain ⟨B, hB⟩ : ∃ B, w.heap.size = B := ⟨_, rfl⟩
    rw [hB] at b1 b2 ⊢
    obtain ⟨D, hD⟩ : ∃ D, B + 1 = D := ⟨_, rfl⟩
    rw [hD] at b2 ⊢
    have c10 := b1.c0
    have c11 := b1.c1
    go_wp2_with (first
      | (go_at_call_of 24 (Value.agg #[Value.bool true, Value.pointer pl]); refine (isZero_is _ (HL.out.below hb) (rfl : _ = false)).mono ?_; rintro e wn ⟨rfl, hk⟩; have hb := hb.trans (hk.mono hb.size); have b1 := b1.below hk; have b2 := b2.below hk; have c10 := b1.c0; have c11 := b1.c1; have f10 := b1.f0; have f11 := b1.f1; have n1 := b1.ne; have l1 := b1.lt; have c20 := b2.c0; have c21 := b2.c1; have f20 := b2.f0; have f21 := b2.f1; have n2 := b2.ne; have l2 := b2.lt; clear hk)
      | (go_at_call_of 24 (Value.agg #[Value.bool false, Value.pointer pr]); refine (isZero_is _ (HR.out.below hb) (rfl : _ = false)).mono ?_; rintro e wn ⟨rfl, hk⟩; have hb := hb.trans (hk.mono hb.size); have b1 := b1.below hk; have b2 := b2.below hk; have c10 := b1.c0; have c11 := b1.c1; have f10 := b1.f0; have f11 := b1.f1; have n1 := b1.ne; have l1 := b1.lt; have c20 := b2.c0; have c21 := b2.c1; have f20 := b2.f0; have f21 := b2.f1; have n2 := b2.ne; have l2 := b2.lt; clear hk)
      | (go_at_call_of 25 (Value.agg #[Value.bool true, Value.pointer pl]); refine (isOne_is _ (HL.out.below hb) (rfl : _ = true)).mono ?_; rintro e wn ⟨rfl, hk⟩; have hb := hb.trans (hk.mono hb.size); have b1 := b1.below hk; have b2 := b2.below hk; have c10 := b1.c0; have c11 := b1.c1; have f10 := b1.f0; have f11 := b1.f1; have n1 := b1.ne; have l1 := b1.lt; have c20 := b2.c0; have c21 := b2.c1; have f20 := b2.f0; have f21 := b2.f1; have n2 := b2.ne; have l2 := b2.lt; clear hk))
    go_ret
    exact ⟨rfl, by first | exact hb | (rw [← hB]; exact hb)⟩
  | .n l r, .o, vl, vr, w, hl, hr => by
    obtain ⟨oa, pl, rfl, hol⟩ := hl.shape'
    obtain ⟨ob, pr, rfl, hor⟩ := hr.shape'
    obtain rfl : oa = false := hol.symm
    obtain rfl : ob = true := hor.symm
    have HL := Lib.hid hl
    have HR := Lib.hid hr
    clear hl hr
    have b1 := (Bx.new w false pl).alloc (.cells #[.bool true, .pointer pr] 31)
    have b2 := Bx.new (w.alloc (.cells #[.bool false, .pointer pl] 31)) true pr
    have hb := (bel0 w (.cells #[.bool false, .pointer pl] 31)).alloc (by simp) (.cells #[.bool true, .pointer pr] 31)
    simp only [asz] at b2
    go_enter Try.func22, Try.ntmps22
    go_wp2_with fail
    generalize (w.alloc (.cells #[.bool false, .pointer pl] 31)).alloc (.cells #[.bool true, .pointer pr] 31) = w3 at *
    obtain ⟨B, hB⟩ : ∃ B, w.heap.size = B := ⟨_, rfl⟩
    rw [hB] at b1 b2 ⊢
    obtain ⟨D, hD⟩ : ∃ D, B + 1 = D := ⟨_, rfl⟩
    rw [hD] at b2 ⊢
    have c10 := b1.c0
    have c11 := b1.c1
    go_wp2_with (first
      | (go_at_call_of 24 (Value.agg #[Value.bool false, Value.pointer pl]); refine (isZero_is _ (HL.out.below hb) (rfl : _ = false)).mono ?_; rintro e wn ⟨rfl, hk⟩; have hb := hb.trans (hk.mono hb.size); have b1 := b1.below hk; have b2 := b2.below hk; have c10 := b1.c0; have c11 := b1.c1; have f10 := b1.f0; have f11 := b1.f1; have n1 := b1.ne; have l1 := b1.lt; have c20 := b2.c0; have c21 := b2.c1; have f20 := b2.f0; have f21 := b2.f1; have n2 := b2.ne; have l2 := b2.lt; clear hk)
      | (go_at_call_of 24 (Value.agg #[Value.bool true, Value.pointer pr]); refine (isZero_is _ (HR.out.below hb) (rfl : _ = false)).mono ?_; rintro e wn ⟨rfl, hk⟩; have hb := hb.trans (hk.mono hb.size); have b1 := b1.below hk; have b2 := b2.below hk; have c10 := b1.c0; have c11 := b1.c1; have f10 := b1.f0; have f11 := b1.f1; have n1 := b1.ne; have l1 := b1.lt; have c20 := b2.c0; have c21 := b2.c1; have f20 := b2.f0; have f21 := b2.f1; have n2 := b2.ne; have l2 := b2.lt; clear hk)
      | (go_at_call_of 25 (Value.agg #[Value.bool false, Value.pointer pl]); refine (isOne_is _ (HL.out.below hb) (rfl : _ = false)).mono ?_; rintro e wn ⟨rfl, hk⟩; have hb := hb.trans (hk.mono hb.size); have b1 := b1.below hk; have b2 := b2.below hk; have c10 := b1.c0; have c11 := b1.c1; have f10 := b1.f0; have f11 := b1.f1; have n1 := b1.ne; have l1 := b1.lt; have c20 := b2.c0; have c21 := b2.c1; have f20 := b2.f0; have f21 := b2.f1; have n2 := b2.ne; have l2 := b2.lt; clear hk)
      | (go_at_call_of 25 (Value.agg #[Value.bool true, Value.pointer pr]); refine (isOne_is _ (HR.out.below hb) (rfl : _ = true)).mono ?_; rintro e wn ⟨rfl, hk⟩; have hb := hb.trans (hk.mono hb.size); have b1 := b1.below hk; have b2 := b2.below hk; have c10 := b1.c0; have c11 := b1.c1; have f10 := b1.f0; have f11 := b1.f1; have n1 := b1.ne; have l1 := b1.lt; have c20 := b2.c0; have c21 := b2.c1; have f20 := b2.f0; have f21 := b2.f1; have n2 := b2.ne; have l2 := b2.lt; clear hk))
    go_ret
    exact ⟨rfl, by first | exact hb | (rw [← hB]; exact hb)⟩
  | .n l r, .n l' r', vl, vr, w, hl, hr => disj_step w (fun vx vy wx hx hy => disj_any wx hx hy) (fun vx vy wx hx hy => disj_any wx hx hy) hl hr

set_option maxHeartbeats 2000000 in
theorem cov_step {l r l' r' : T} {vl vr : Value} (w : World) (i1 : ∀ (vx vy : Value) (wx : World), IDV wx l vx → IDV wx l' vy → Calls Try.prog 34 #[vx, vy] wx fun e w' => e = .returned (.bool (T.cov l l')) ∧ Below wx.heap.size wx w')
    (i2 : ∀ (vx vy : Value) (wx : World), IDV wx r vx → IDV wx r' vy → Calls Try.prog 34 #[vx, vy] wx fun e w' => e = .returned (.bool (T.cov r r')) ∧ Below wx.heap.size wx w')
    (hl : IDV w (.n l r) vl) (hr : IDV w (.n l' r') vr) : Calls Try.prog 34 #[vl, vr] w fun e w' => e = .returned (.bool (T.cov (.n l r) (.n l' r'))) ∧ Below w.heap.size w w' := by
  obtain ⟨b, x, px, y, py, rfl, hn0, hl1, hl2, _, _⟩ := hl.node
  obtain ⟨c, s, ps, u, pu, rfl, hm0, hr1, hr2, _, _⟩ := hr.node
  have HL1 := Lib.hid hl1
  have HL2 := Lib.hid hl2
  have HR1 := Lib.hid hr1
  have HR2 := Lib.hid hr2
  have HL := Lib.hid hl
  have HR := Lib.hid hr
  have HN := Lib.hid hn0
  have HM := Lib.hid hm0
  clear hl hr hl1 hl2 hr1 hr2 hn0 hm0
  have h1' : T.cov l l' = true ∨ T.cov l l' = false := by cases T.cov l l' <;> simp
  have I2 := Lib.hid i2
  clear i2
  rcases h1' with h1 | h1
  all_goals
    have ih := i1
    rw [h1] at ih
    have I1 := Lib.hid ih
    have H1 := Lib.hid h1
    clear ih h1 i1
    have b1 := (Bx.new w false (some ⟨b, 0, none⟩)).alloc (.cells #[.bool false, .pointer (some ⟨c, 0, none⟩)] 31)
    have b2 := Bx.new (w.alloc (.cells #[.bool false, .pointer (some ⟨b, 0, none⟩)] 31)) false (some ⟨c, 0, none⟩)
    have hb := (bel0 w (.cells #[.bool false, .pointer (some ⟨b, 0, none⟩)] 31)).alloc (by simp) (.cells #[.bool false, .pointer (some ⟨c, 0, none⟩)] 31)
    simp only [asz] at b2
    go_enter Try.func34, Try.ntmps34
    go_wp2_with fail
    generalize (w.alloc (.cells #[.bool false, .pointer (some ⟨b, 0, none⟩)] 31)).alloc (.cells #[.bool false, .pointer (some ⟨c, 0, none⟩)] 31) = w3 at *
    obtain ⟨B, hB⟩ : ∃ B, w.heap.size = B := ⟨_, rfl⟩
    rw [hB] at b1 b2 ⊢
    obtain ⟨D, hD⟩ : ∃ D, B + 1 = D := ⟨_, rfl⟩
    rw [hD] at b2 ⊢
    have c10 := b1.c0
    have c11 := b1.c1
    go_upto_region 5 with (first
        | (go_at_call_of 24 (Value.agg #[Value.bool false, Value.pointer (some ⟨b, 0, none⟩)]); refine (isZero_is _ (HL.out.below hb) (rfl : _ = false)).mono ?_; rintro e wn ⟨rfl, hk⟩; have hb := hb.trans (hk.mono hb.size); have b1 := b1.below hk; have b2 := b2.below hk; have c10 := b1.c0; have c11 := b1.c1; have f10 := b1.f0; have f11 := b1.f1; have n1 := b1.ne; have l1 := b1.lt; have c20 := b2.c0; have c21 := b2.c1; have f20 := b2.f0; have f21 := b2.f1; have n2 := b2.ne; have l2 := b2.lt; clear hk)
        | (go_at_call_of 24 (Value.agg #[Value.bool false, Value.pointer (some ⟨c, 0, none⟩)]); refine (isZero_is _ (HR.out.below hb) (rfl : _ = false)).mono ?_; rintro e wn ⟨rfl, hk⟩; have hb := hb.trans (hk.mono hb.size); have b1 := b1.below hk; have b2 := b2.below hk; have c10 := b1.c0; have c11 := b1.c1; have f10 := b1.f0; have f11 := b1.f1; have n1 := b1.ne; have l1 := b1.lt; have c20 := b2.c0; have c21 := b2.c1; have f20 := b2.f0; have f21 := b2.f1; have n2 := b2.ne; have l2 := b2.lt; clear hk)
        | (go_at_call_of 25 (Value.agg #[Value.bool false, Value.pointer (some ⟨b, 0, none⟩)]); refine (isOne_is _ (HL.out.below hb) (rfl : _ = false)).mono ?_; rintro e wn ⟨rfl, hk⟩; have hb := hb.trans (hk.mono hb.size); have b1 := b1.below hk; have b2 := b2.below hk; have c10 := b1.c0; have c11 := b1.c1; have f10 := b1.f0; have f11 := b1.f1; have n1 := b1.ne; have l1 := b1.lt; have c20 := b2.c0; have c21 := b2.c1; have f20 := b2.f0; have f21 := b2.f1; have n2 := b2.ne; have l2 := b2.lt; clear hk)
        | (go_at_call_of 25 (Value.agg #[Value.bool false, Value.pointer (some ⟨c, 0, none⟩)]); refine (isOne_is _ (HR.out.below hb) (rfl : _ = false)).mono ?_; rintro e wn ⟨rfl, hk⟩; have hb := hb.trans (hk.mono hb.size); have b1 := b1.below hk; have b2 := b2.below hk; have c10 := b1.c0; have c11 := b1.c1; have f10 := b1.f0; have f11 := b1.f1; have n1 := b1.ne; have l1 := b1.lt; have c20 := b2.c0; have c21 := b2.c1; have f20 := b2.f0; have f21 := b2.f1; have n2 := b2.ne; have l2 := b2.lt; clear hk))
    have hn := HN.out.below hb
    have hm := HM.out.below hb
    have hb := bdrew hb
    have b1 : Bx wn.drew B false (some ⟨b, 0, none⟩) := b1
    have b2 : Bx wn.drew D false (some ⟨c, 0, none⟩) := b2
    have hn : Nd wn.drew b x px y py := hn
    have hm : Nd wn.drew c s ps u pu := hm
    have hc1 : ∀ k : InS (DC w B D b c x px y py s ps u pu), k.w.cell? ⟨B, 1, none⟩ = some (.pointer (some ⟨b, 0, none⟩)) := fun k => k.h.2.1.c1
    have hc2 : ∀ k : InS (DC w B D b c x px y py s ps u pu), k.w.cell? ⟨D, 1, none⟩ = some (.pointer (some ⟨c, 0, none⟩)) := fun k => k.h.2.2.1.c1
    have hn0 : ∀ k : InS (DC w B D b c x px y py s ps u pu), k.w.cell? ⟨b, 0, none⟩ = some (.bool x) := fun k => k.h.2.2.2.1.c0
    have hn1 : ∀ k : InS (DC w B D b c x px y py s ps u pu), k.w.cell? ⟨b, 1, none⟩ = some (.pointer px) := fun k => k.h.2.2.2.1.c1
    have hn2 : ∀ k : InS (DC w B D b c x px y py s ps u pu), k.w.cell? ⟨b, 2, none⟩ = some (.bool y) := fun k => k.h.2.2.2.1.c2
    have hn3 : ∀ k : InS (DC w B D b c x px y py s ps u pu), k.w.cell? ⟨b, 3, none⟩ = some (.pointer py) := fun k => k.h.2.2.2.1.c3
    have hm0 : ∀ k : InS (DC w B D b c x px y py s ps u pu), k.w.cell? ⟨c, 0, none⟩ = some (.bool s) := fun k => k.h.2.2.2.2.c0
    have hm1 : ∀ k : InS (DC w B D b c x px y py s ps u pu), k.w.cell? ⟨c, 1, none⟩ = some (.pointer ps) := fun k => k.h.2.2.2.2.c1
    have hm2 : ∀ k : InS (DC w B D b c x px y py s ps u pu), k.w.cell? ⟨c, 2, none⟩ = some (.bool u) := fun k => k.h.2.2.2.2.c2
    have hm3 : ∀ k : InS (DC w B D b c x px y py s ps u pu), k.w.cell? ⟨c, 3, none⟩ = some (.pointer pu) := fun k => k.h.2.2.2.2.c3
    refine region_in (S := DC w B D b c x px y py s ps u pu) (by kernel_rfl) (by kernel_rfl) ⟨hb, b1, b2, hn, hm⟩ ?_
    have hne : Nonempty (InS (DC w B D b c x px y py s ps u pu)) := ⟨⟨wn.drew, hb, b1, b2, hn, hm⟩⟩
    clear b1 b2 hn hm hb
    repeat (go_big_quiet_step ((first
      | (go_at_call_of 34 (Value.agg #[Value.bool x, Value.pointer px]); rename_i kk; refine Calls.mono (I1.out _ _ _ (HL1.out.below kk.h.1) (HR1.out.below kk.h.1)) ?_; rintro e wn ⟨rfl, hk⟩; exact ⟨rfl, ⟨wn, kk.h.below hk⟩, rfl⟩)
      | (go_at_call_of 34 (Value.agg #[Value.bool y, Value.pointer py]); rename_i kk; refine Calls.mono (I2.out _ _ _ (HL2.out.below kk.h.1) (HR2.out.below kk.h.1)) ?_; rintro e wn ⟨rfl, hk⟩; exact ⟨rfl, ⟨wn, kk.h.below hk⟩, rfl⟩))))
    refine wpQuiet_nil ?_
    rintro _ ⟨⟨wk, hk⟩, rfl⟩
    go_wp2_with fail
    go_ret
    exact ⟨by simp [T.cov, H1.out], by first | exact hk.1 | (rw [← hB]; exact hk.1)⟩

set_option maxHeartbeats 2000000 in
theorem cov_any : ∀ {a b : T} {vl vr : Value} (w : World), IDV w a vl → IDV w b vr → Calls Try.prog 34 #[vl, vr] w fun e w' => e = .returned (.bool (a.cov b)) ∧ Below w.heap.size w w'
  | .o, b, vl, vr, w, hl, hr => by
    obtain ⟨oa, pl, rfl, hol⟩ := hl.shape'
    obtain ⟨ob, pr, rfl, hor⟩ := hr.shape'
    obtain rfl : oa = true := hol.symm
    have HL := Lib.hid hl
    have HR := Lib.hid hr
    clear hl hr
    have b1 := (Bx.new w true pl).alloc (.cells #[.bool ob, .pointer pr] 31)
    have b2 := Bx.new (w.alloc (.cells #[.bool true, .pointer pl] 31)) ob pr
    have hb := (bel0 w (.cells #[.bool true, .pointer pl] 31)).alloc (by simp) (.cells #[.bool ob, .pointer pr] 31)
    simp only [asz] at b2
    go_enter Try.func34, Try.ntmps34
    go_wp2_with fail
    generalize (w.alloc (.cells #[.bool true, .pointer pl] 31)).alloc (.cells #[.bool ob, .pointer pr] 31) = w3 at *
    obtain ⟨B, hB⟩ : ∃ B, w.heap.size = B := ⟨_, rfl⟩
    rw [hB] at b1 b2 ⊢
    obtain ⟨D, hD⟩ : ∃ D, B + 1 = D := ⟨_, rfl⟩
    rw [hD] at b2 ⊢
    have c10 := b1.c0
    have c11 := b1.c1
    go_wp2_with (first
      | (go_at_call_of 25 (Value.agg #[Value.bool true, Value.pointer pl]); refine (isOne_is _ (HL.out.below hb) (rfl : _ = true)).mono ?_; rintro e wn ⟨rfl, hk⟩; have hb := hb.trans (hk.mono hb.size); have b1 := b1.below hk; have b2 := b2.below hk; have c10 := b1.c0; have c11 := b1.c1; have f10 := b1.f0; have f11 := b1.f1; have n1 := b1.ne; have l1 := b1.lt; have c20 := b2.c0; have c21 := b2.c1; have f20 := b2.f0; have f21 := b2.f1; have n2 := b2.ne; have l2 := b2.lt; clear hk))
    go_ret
    exact ⟨rfl, by first | exact hb | (rw [← hB]; exact hb)⟩
  | .z, .z, vl, vr, w, hl, hr => by
    obtain ⟨oa, pl, rfl, hol⟩ := hl.shape'
    obtain ⟨ob, pr, rfl, hor⟩ := hr.shape'
    obtain rfl : oa = false := hol.symm
    obtain rfl : ob = false := hor.symm
    have HL := Lib.hid hl
    have HR := Lib.hid hr
    clear hl hr
    have b1 := (Bx.new w false pl).alloc (.cells #[.bool false, .pointer pr] 31)
    have b2 := Bx.new (w.alloc (.cells #[.bool false, .pointer pl] 31)) false pr
    have hb := (bel0 w (.cells #[.bool false, .pointer pl] 31)).alloc (by simp) (.cells #[.bool false, .pointer pr] 31)
    simp only [asz] at b2
    go_enter Try.func34, Try.ntmps34
    go_wp2_with fail
    generalize (w.alloc (.cells #[.bool false, .pointer pl] 31)).alloc (.cells #[.bool false, .pointer pr] 31) = w3 at *
    obtain ⟨B, hB⟩ : ∃ B, w.heap.size = B := ⟨_, rfl⟩
    rw [hB] at b1 b2 ⊢
    obtain ⟨D, hD⟩ : ∃ D, B + 1 = D := ⟨_, rfl⟩
    rw [hD] at b2 ⊢
    have c10 := b1.c0
    have c11 := b1.c1
    go_wp2_with (first
      | (go_at_call_of 24 (Value.agg #[Value.bool false, Value.pointer pr]); refine (isZero_is _ (HR.out.below hb) (rfl : _ = true)).mono ?_; rintro e wn ⟨rfl, hk⟩; have hb := hb.trans (hk.mono hb.size); have b1 := b1.below hk; have b2 := b2.below hk; have c10 := b1.c0; have c11 := b1.c1; have f10 := b1.f0; have f11 := b1.f1; have n1 := b1.ne; have l1 := b1.lt; have c20 := b2.c0; have c21 := b2.c1; have f20 := b2.f0; have f21 := b2.f1; have n2 := b2.ne; have l2 := b2.lt; clear hk)
      | (go_at_call_of 25 (Value.agg #[Value.bool false, Value.pointer pl]); refine (isOne_is _ (HL.out.below hb) (rfl : _ = false)).mono ?_; rintro e wn ⟨rfl, hk⟩; have hb := hb.trans (hk.mono hb.size); have b1 := b1.below hk; have b2 := b2.below hk; have c10 := b1.c0; have c11 := b1.c1; have f10 := b1.f0; have f11 := b1.f1; have n1 := b1.ne; have l1 := b1.lt; have c20 := b2.c0; have c21 := b2.c1; have f20 := b2.f0; have f21 := b2.f1; have n2 := b2.ne; have l2 := b2.lt; clear hk))
    go_ret
    exact ⟨rfl, by first | exact hb | (rw [← hB]; exact hb)⟩
  | .n l r, .z, vl, vr, w, hl, hr => by
    obtain ⟨oa, pl, rfl, hol⟩ := hl.shape'
    obtain ⟨ob, pr, rfl, hor⟩ := hr.shape'
    obtain rfl : oa = false := hol.symm
    obtain rfl : ob = false := hor.symm
    have HL := Lib.hid hl
    have HR := Lib.hid hr
    clear hl hr
    have b1 := (Bx.new w false pl).alloc (.cells #[.bool false, .pointer pr] 31)
    have b2 := Bx.new (w.alloc (.cells #[.bool false, .pointer pl] 31)) false pr
    have hb := (bel0 w (.cells #[.bool false, .pointer pl] 31)).alloc (by simp) (.cells #[.bool false, .pointer pr] 31)
    simp only [asz] at b2
    go_enter Try.func34, Try.ntmps34
    go_wp2_with fail
    generalize (w.alloc (.cells #[.bool false, .pointer pl] 31)).alloc (.cells #[.bool false, .pointer pr] 31) = w3 at *
    obtain ⟨B, hB⟩ : ∃ B, w.heap.size = B := ⟨_, rfl⟩
    rw [hB] at b1 b2 ⊢
    obtain ⟨D, hD⟩ : ∃ D, B + 1 = D := ⟨_, rfl⟩
    rw [hD] at b2 ⊢
    have c10 := b1.c0
    have c11 := b1.c1
    go_wp2_with (first
      | (go_at_call_of 24 (Value.agg #[Value.bool false, Value.pointer pr]); refine (isZero_is _ (HR.out.below hb) (rfl : _ = true)).mono ?_; rintro e wn ⟨rfl, hk⟩; have hb := hb.trans (hk.mono hb.size); have b1 := b1.below hk; have b2 := b2.below hk; have c10 := b1.c0; have c11 := b1.c1; have f10 := b1.f0; have f11 := b1.f1; have n1 := b1.ne; have l1 := b1.lt; have c20 := b2.c0; have c21 := b2.c1; have f20 := b2.f0; have f21 := b2.f1; have n2 := b2.ne; have l2 := b2.lt; clear hk)
      | (go_at_call_of 25 (Value.agg #[Value.bool false, Value.pointer pl]); refine (isOne_is _ (HL.out.below hb) (rfl : _ = false)).mono ?_; rintro e wn ⟨rfl, hk⟩; have hb := hb.trans (hk.mono hb.size); have b1 := b1.below hk; have b2 := b2.below hk; have c10 := b1.c0; have c11 := b1.c1; have f10 := b1.f0; have f11 := b1.f1; have n1 := b1.ne; have l1 := b1.lt; have c20 := b2.c0; have c21 := b2.c1; have f20 := b2.f0; have f21 := b2.f1; have n2 := b2.ne; have l2 := b2.lt; clear hk))
    go_ret
    exact ⟨rfl, by first | exact hb | (rw [← hB]; exact hb)⟩
  | .z, .o, vl, vr, w, hl, hr => by
    obtain ⟨oa, pl, rfl, hol⟩ := hl.shape'
    obtain ⟨ob, pr, rfl, hor⟩ := hr.shape'
    obtain rfl : oa = false := hol.symm
    obtain rfl : ob = true := hor.symm
    have HL := Lib.hid hl
    have HR := Lib.hid hr
    clear hl hr
    have b1 := (Bx.new w false pl).alloc (.cells #[.bool true, .pointer pr] 31)
    have b2 := Bx.new (w.alloc (.cells #[.bool false, .pointer pl] 31)) true pr
    have hb := (bel0 w (.cells #[.bool false, .pointer pl] 31)).alloc (by simp) (.cells #[.bool true, .pointer pr] 31)
    simp only [asz] at b2
    go_enter Try.func34, Try.ntmps34
    go_wp2_with fail
    generalize (w.alloc (.cells #[.bool false, .pointer pl] 31)).alloc (.cells #[.bool true, .pointer pr] 31) = w3 at *
    obtain ⟨B, hB⟩ : ∃ B, w.heap.size = B := ⟨_, rfl⟩
    rw [hB] at b1 b2 ⊢
    obtain ⟨D, hD⟩ : ∃ D, B + 1 = D := ⟨_, rfl⟩
    rw [hD] at b2 ⊢
    have c10 := b1.c0
    have c11 := b1.c1
    go_wp2_with (first
      | (go_at_call_of 24 (Value.agg #[Value.bool false, Value.pointer pl]); refine (isZero_is _ (HL.out.below hb) (rfl : _ = true)).mono ?_; rintro e wn ⟨rfl, hk⟩; have hb := hb.trans (hk.mono hb.size); have b1 := b1.below hk; have b2 := b2.below hk; have c10 := b1.c0; have c11 := b1.c1; have f10 := b1.f0; have f11 := b1.f1; have n1 := b1.ne; have l1 := b1.lt; have c20 := b2.c0; have c21 := b2.c1; have f20 := b2.f0; have f21 := b2.f1; have n2 := b2.ne; have l2 := b2.lt; clear hk)
      | (go_at_call_of 24 (Value.agg #[Value.bool true, Value.pointer pr]); refine (isZero_is _ (HR.out.below hb) (rfl : _ = false)).mono ?_; rintro e wn ⟨rfl, hk⟩; have hb := hb.trans (hk.mono hb.size); have b1 := b1.below hk; have b2 := b2.below hk; have c10 := b1.c0; have c11 := b1.c1; have f10 := b1.f0; have f11 := b1.f1; have n1 := b1.ne; have l1 := b1.lt; have c20 := b2.c0; have c21 := b2.c1; have f20 := b2.f0; have f21 := b2.f1; have n2 := b2.ne; have l2 := b2.lt; clear hk)
      | (go_at_call_of 25 (Value.agg #[Value.bool false, Value.pointer pl]); refine (isOne_is _ (HL.out.below hb) (rfl : _ = false)).mono ?_; rintro e wn ⟨rfl, hk⟩; have hb := hb.trans (hk.mono hb.size); have b1 := b1.below hk; have b2 := b2.below hk; have c10 := b1.c0; have c11 := b1.c1; have f10 := b1.f0; have f11 := b1.f1; have n1 := b1.ne; have l1 := b1.lt; have c20 := b2.c0; have c21 := b2.c1; have f20 := b2.f0; have f21 := b2.f1; have n2 := b2.ne; have l2 := b2.lt; clear hk))
    go_ret
    exact ⟨rfl, by first | exact hb | (rw [← hB]; exact hb)⟩
  | .z, .n l' r', vl, vr, w, hl, hr => by
    obtain ⟨oa, pl, rfl, hol⟩ := hl.shape'
    obtain ⟨ob, pr, rfl, hor⟩ := hr.shape'
    obtain rfl : oa = false := hol.symm
    obtain rfl : ob = false := hor.symm
    have HL := Lib.hid hl
    have HR := Lib.hid hr
    clear hl hr
    have b1 := (Bx.new w false pl).alloc (.cells #[.bool false, .pointer pr] 31)
    have b2 := Bx.new (w.alloc (.cells #[.bool false, .pointer pl] 31)) false pr
    have hb := (bel0 w (.cells #[.bool false, .pointer pl] 31)).alloc (by simp) (.cells #[.bool false, .pointer pr] 31)
    simp only [asz] at b2
    go_enter Try.func34, Try.ntmps34
    go_wp2_with fail
    generalize (w.alloc (.cells #[.bool false, .pointer pl] 31)).alloc (.cells #[.bool false, .pointer pr] 31) = w3 at *
    obtain ⟨B, hB⟩ : ∃ B, w.heap.size = B := ⟨_, rfl⟩
    rw [hB] at b1 b2 ⊢
    obtain ⟨D, hD⟩ : ∃ D, B + 1 = D := ⟨_, rfl⟩
    rw [hD] at b2 ⊢
    have c10 := b1.c0
    have c11 := b1.c1
    go_wp2_with (first
      | (go_at_call_of 24 (Value.agg #[Value.bool false, Value.pointer pl]); refine (isZero_is _ (HL.out.below hb) (rfl : _ = true)).mono ?_; rintro e wn ⟨rfl, hk⟩; have hb := hb.trans (hk.mono hb.size); have b1 := b1.below hk; have b2 := b2.below hk; have c10 := b1.c0; have c11 := b1.c1; have f10 := b1.f0; have f11 := b1.f1; have n1 := b1.ne; have l1 := b1.lt; have c20 := b2.c0; have c21 := b2.c1; have f20 := b2.f0; have f21 := b2.f1; have n2 := b2.ne; have l2 := b2.lt; clear hk)
      | (go_at_call_of 24 (Value.agg #[Value.bool false, Value.pointer pr]); refine (isZero_is _ (HR.out.below hb) (rfl : _ = false)).mono ?_; rintro e wn ⟨rfl, hk⟩; have hb := hb.trans (hk.mono hb.size); have b1 := b1.below hk; have b2 := b2.below hk; have c10 := b1.c0; have c11 := b1.c1; have f10 := b1.f0; have f11 := b1.f1; have n1 := b1.ne; have l1 := b1.lt; have c20 := b2.c0; have c21 := b2.c1; have f20 := b2.f0; have f21 := b2.f1; have n2 := b2.ne; have l2 := b2.lt; clear hk)
      | (go_at_call_of 25 (Value.agg #[Value.bool false, Value.pointer pl]); refine (isOne_is _ (HL.out.below hb) (rfl : _ = false)).mono ?_; rintro e wn ⟨rfl, hk⟩; have hb := hb.trans (hk.mono hb.size); have b1 := b1.below hk; have b2 := b2.below hk; have c10 := b1.c0; have c11 := b1.c1; have f10 := b1.f0; have f11 := b1.f1; have n1 := b1.ne; have l1 := b1.lt; have c20 := b2.c0; have c21 := b2.c1; have f20 := b2.f0; have f21 := b2.f1; have n2 := b2.ne; have l2 := b2.lt; clear hk))
    go_ret
    exact ⟨rfl, by first | exact hb | (rw [← hB]; exact hb)⟩
  | .n l r, .o, vl, vr, w, hl, hr => by
    obtain ⟨oa, pl, rfl, hol⟩ := hl.shape'
    obtain ⟨ob, pr, rfl, hor⟩ := hr.shape'
    obtain rfl : oa = false := hol.symm
    obtain rfl : ob = true := hor.symm
    have HL := Lib.hid hl
    have HR := Lib.hid hr
    clear hl hr
    have b1 := (Bx.new w false pl).alloc (.cells #[.bool true, .pointer pr] 31)
    have b2 := Bx.new (w.alloc (.cells #[.bool false, .pointer pl] 31)) true pr
    have hb := (bel0 w (.cells #[.bool false, .pointer pl] 31)).alloc (by simp) (.cells #[.bool true, .pointer pr] 31)
    simp only [asz] at b2
    go_enter Try.func34, Try.ntmps34
    go_wp2_with fail
    generalize (w.alloc (.cells #[.bool false, .pointer pl] 31)).alloc (.cells #[.bool true, .pointer pr] 31) = w3 at *
    obtain ⟨B, hB⟩ : ∃ B, w.heap.size = B := ⟨_, rfl⟩
    rw [hB] at b1 b2 ⊢
    obtain ⟨D, hD⟩ : ∃ D, B + 1 = D := ⟨_, rfl⟩
    rw [hD] at b2 ⊢
    have c10 := b1.c0
    have c11 := b1.c1
    go_wp2_with (first
      | (go_at_call_of 24 (Value.agg #[Value.bool false, Value.pointer pl]); refine (isZero_is _ (HL.out.below hb) (rfl : _ = false)).mono ?_; rintro e wn ⟨rfl, hk⟩; have hb := hb.trans (hk.mono hb.size); have b1 := b1.below hk; have b2 := b2.below hk; have c10 := b1.c0; have c11 := b1.c1; have f10 := b1.f0; have f11 := b1.f1; have n1 := b1.ne; have l1 := b1.lt; have c20 := b2.c0; have c21 := b2.c1; have f20 := b2.f0; have f21 := b2.f1; have n2 := b2.ne; have l2 := b2.lt; clear hk)
      | (go_at_call_of 24 (Value.agg #[Value.bool true, Value.pointer pr]); refine (isZero_is _ (HR.out.below hb) (rfl : _ = false)).mono ?_; rintro e wn ⟨rfl, hk⟩; have hb := hb.trans (hk.mono hb.size); have b1 := b1.below hk; have b2 := b2.below hk; have c10 := b1.c0; have c11 := b1.c1; have f10 := b1.f0; have f11 := b1.f1; have n1 := b1.ne; have l1 := b1.lt; have c20 := b2.c0; have c21 := b2.c1; have f20 := b2.f0; have f21 := b2.f1; have n2 := b2.ne; have l2 := b2.lt; clear hk)
      | (go_at_call_of 25 (Value.agg #[Value.bool false, Value.pointer pl]); refine (isOne_is _ (HL.out.below hb) (rfl : _ = false)).mono ?_; rintro e wn ⟨rfl, hk⟩; have hb := hb.trans (hk.mono hb.size); have b1 := b1.below hk; have b2 := b2.below hk; have c10 := b1.c0; have c11 := b1.c1; have f10 := b1.f0; have f11 := b1.f1; have n1 := b1.ne; have l1 := b1.lt; have c20 := b2.c0; have c21 := b2.c1; have f20 := b2.f0; have f21 := b2.f1; have n2 := b2.ne; have l2 := b2.lt; clear hk)
      | (go_at_call_of 25 (Value.agg #[Value.bool true, Value.pointer pr]); refine (isOne_is _ (HR.out.below hb) (rfl : _ = true)).mono ?_; rintro e wn ⟨rfl, hk⟩; have hb := hb.trans (hk.mono hb.size); have b1 := b1.below hk; have b2 := b2.below hk; have c10 := b1.c0; have c11 := b1.c1; have f10 := b1.f0; have f11 := b1.f1; have n1 := b1.ne; have l1 := b1.lt; have c20 := b2.c0; have c21 := b2.c1; have f20 := b2.f0; have f21 := b2.f1; have n2 := b2.ne; have l2 := b2.lt; clear hk))
    go_ret
    exact ⟨rfl, by first | exact hb | (rw [← hB]; exact hb)⟩
  | .n l r, .n l' r', vl, vr, w, hl, hr => cov_step w (fun vx vy wx hx hy => cov_any wx hx hy) (fun vx vy wx hx hy => cov_any wx hx hy) hl hr
end Go.Proofs.Ytigkjmfkpmehlaa
