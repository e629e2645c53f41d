/- share.both. (Printed by wip/ids/both.py.) -/
import Derived.Test.YtigkjmfkpmehlaaRegInv
import Derived.Test.YtigkjmfkpmehlaaRWide
namespace Go.Proofs.Ytigkjmfkpmehlaa
open Go.RowKit

/-- What both have. -/
def T.both : T → T → T
  | .z, _ => .z
  | .o, b => b
  | .n _ _, .z => .z
  | .n a b, .o => .n a b
  | .n a b, .n c d => T.pair (a.both c) (b.both d)
theorem pair_depth (l r : T) : (T.pair l r).depth ≤ 1 + max l.depth r.depth := by
  unfold T.pair
  split
  · simp [T.depth]
  · split
    · simp [T.depth]
    · simp [T.depth]
theorem both_depth : ∀ (a b : T), (a.both b).depth ≤ max a.depth b.depth
  | .z, _ => by simp [T.both, T.depth]
  | .o, b => by simp [T.both]; omega
  | .n _ _, .z => by simp [T.both, T.depth]
  | .n a b, .o => by simp [T.both]; omega
  | .n a b, .n c d => by
    have h1 := both_depth a c
    have h2 := both_depth b d
    have h3 := pair_depth (a.both c) (b.both d)
    simp only [T.both, T.depth] at *
    omega
def BothOk (s t : T) : Prop := ∀ (u v : Value) (w : World), s.depth ≤ 16 → t.depth ≤ 16 → IDV w s u → IDV w t v → Calls Try.prog 69 #[u, v] w fun e w' => ∃ x, e = .returned x ∧ IDV w' (s.both t) x ∧ Below w.heap.size w w'
set_option maxRecDepth 100000 in
set_option maxHeartbeats 3200000 in
theorem both_n {l r l' r' : T} (il : BothOk l l') (ir : BothOk r r') : BothOk (.n l r) (.n l' r') := by
  intro u v w ds dt hs ht
  obtain ⟨b, _, _, _, _, rfl, _⟩ := hs.node
  obtain ⟨c, _, _, _, _, rfl, _⟩ := ht.node
  have HS := Lib.hid hs
  have HT := Lib.hid ht
  unfold BothOk at il ir
  simp only [T.depth] at ds dt
  have dl : l.depth ≤ 16 := by omega
  have dl' : l'.depth ≤ 16 := by omega
  have dr : r.depth ≤ 16 := by omega
  have dr' : r'.depth ≤ 16 := by omega
  have d3 := both_depth l l'
  have d4 := both_depth r r'
  have d1 : (l.both l').depth ≤ 10000 := by omega
  have d2 : (r.both r').depth ≤ 10000 := by omega
  have HPR := Lib.hid (show pairR (l.both l') (r.both r') = (T.both (.n l r) (.n l' r'), 0) by
    unfold pairR
    rw [if_pos (by have := pair_depth (l.both l') (r.both r'); omega)]
    rfl)
  clear d3 d4
  have IL := Lib.hid il
  have IR := Lib.hid ir
  clear hs ht il ir
  have b1 := ((Bx.new w false (some ⟨b, 0, none⟩)).alloc (.cells #[.bool false, .pointer (some ⟨c, 0, none⟩)] 31)).alloc (.cells #[.bool false, .pointer none] 31)
  have b2 := (Bx.new (w.alloc (.cells #[.bool false, .pointer (some ⟨b, 0, none⟩)] 31)) false (some ⟨c, 0, none⟩)).alloc (.cells #[.bool false, .pointer none] 31)
  have b3 := Bx.new ((w.alloc (.cells #[.bool false, .pointer (some ⟨b, 0, none⟩)] 31)).alloc (.cells #[.bool false, .pointer (some ⟨c, 0, none⟩)] 31)) false none
  have hb := ((bel0 w (.cells #[.bool false, .pointer (some ⟨b, 0, none⟩)] 31)).alloc (by simp) (.cells #[.bool false, .pointer (some ⟨c, 0, none⟩)] 31)).alloc (by simp; omega) (.cells #[.bool false, .pointer none] 31)
  simp only [asz] at b2 b3
  go_enter Try.func69, Try.ntmps69
  go_wp2_with fail
  generalize ((w.alloc (.cells #[.bool false, .pointer (some ⟨b, 0, none⟩)] 31)).alloc (.cells #[.bool false, .pointer (some ⟨c, 0, none⟩)] 31)).alloc (.cells #[.bool false, .pointer none] 31) = w3 at *
  obtain ⟨B, hB⟩ : ∃ B, w.heap.size = B := ⟨_, rfl⟩
  rw [hB] at b1 b2 b3 ⊢
  obtain ⟨D, hD⟩ : ∃ D, B + 1 = D := ⟨_, rfl⟩
  rw [hD] at b2 b3 ⊢
  obtain ⟨C, hC⟩ : ∃ C, D + 1 = C := ⟨_, rfl⟩
  rw [hC] at b3 ⊢
  have c10 := b1.c0
  have c11 := b1.c1
  have c20 := b2.c0
  have c21 := b2.c1
  go_upto_region 5 with (first
    | (go_at_call_of 24 (Value.agg #[Value.bool false, Value.pointer (some ⟨b, 0, none⟩)]); refine Calls.mono (isZero_is _ (HS.out.below hb) (rfl : _ = false)) ?_; rintro e wn ⟨rfl, hkk⟩; have hb := hb.trans (hkk.mono hb.size); have b1 := b1.below hkk; have b2 := b2.below hkk; have b3 := b3.below hkk; clear c10 c11 c20 c21 hkk; have c10 := b1.c0; have c11 := b1.c1; have c20 := b2.c0; have c21 := b2.c1)
    | (go_at_call_of 24 (Value.agg #[Value.bool false, Value.pointer (some ⟨c, 0, none⟩)]); refine Calls.mono (isZero_is _ (HT.out.below hb) (rfl : _ = false)) ?_; rintro e wn ⟨rfl, hkk⟩; have hb := hb.trans (hkk.mono hb.size); have b1 := b1.below hkk; have b2 := b2.below hkk; have b3 := b3.below hkk; clear c10 c11 c20 c21 hkk; have c10 := b1.c0; have c11 := b1.c1; have c20 := b2.c0; have c21 := b2.c1)
    | (go_at_call_of 25 (Value.agg #[Value.bool false, Value.pointer (some ⟨b, 0, none⟩)]); refine Calls.mono (isOne_is _ (HS.out.below hb) (rfl : _ = false)) ?_; rintro e wn ⟨rfl, hkk⟩; have hb := hb.trans (hkk.mono hb.size); have b1 := b1.below hkk; have b2 := b2.below hkk; have b3 := b3.below hkk; clear c10 c11 c20 c21 hkk; have c10 := b1.c0; have c11 := b1.c1; have c20 := b2.c0; have c21 := b2.c1)
    | (go_at_call_of 25 (Value.agg #[Value.bool false, Value.pointer (some ⟨c, 0, none⟩)]); refine Calls.mono (isOne_is _ (HT.out.below hb) (rfl : _ = false)) ?_; rintro e wn ⟨rfl, hkk⟩; have hb := hb.trans (hkk.mono hb.size); have b1 := b1.below hkk; have b2 := b2.below hkk; have b3 := b3.below hkk; clear c10 c11 c20 c21 hkk; have c10 := b1.c0; have c11 := b1.c1; have c20 := b2.c0; have c21 := b2.c1))
  rename World => w9
  have hb0 := hb
  have b10 := b1
  have b20 := b2
  have b30 := b3
  have hb := bdrew hb
  have b1 := b1.drew
  have b2 := b2.drew
  have b3 := b3.drew
  have m0 : w9.heap.size ≠ B := b10.ne
  have m1 : w9.heap.size ≠ D := b20.ne
  have m2 : w9.heap.size ≠ C := b30.ne
  go_cut [5, 6] (fun s5 s6 wx => OwnX w C (T.both (.n l r) (.n l' r')) s5 wx)
  case first =>
    go_region_held3 (fun w' => w'.cell? ⟨B, 0, none⟩ = some (.bool false) ∧ w'.cell? ⟨B, 1, none⟩ = some (.pointer (some ⟨b, 0, none⟩)) ∧ w'.cell? ⟨D, 0, none⟩ = some (.bool false) ∧ w'.cell? ⟨D, 1, none⟩ = some (.pointer (some ⟨c, 0, none⟩))) (with_reducible first
      | exact ⟨b1.c0, b1.c1, b2.c0, b2.c1⟩
      | (refine (fun h k => ⟨Bx.c0 h, Bx.c1 h, Bx.c0 k, Bx.c1 k⟩ : Bx _ B false (some ⟨b, 0, none⟩) → Bx _ D false (some ⟨c, 0, none⟩) → _) ?_ ?_
         · repeat (first | exact b1 | exact b10 | refine Bx.drew ?_ | refine Bx.below ?_ (bel0 _ _) | refine Bx.far ?_ (by first | assumption | exact Ne.symm (by assumption)) _ _)
         · repeat (first | exact b2 | exact b20 | refine Bx.drew ?_ | refine Bx.below ?_ (bel0 _ _) | refine Bx.far ?_ (by first | assumption | exact Ne.symm (by assumption)) _ _)))
      (first
      | (go_at_call_of 32 (Value.agg #[Value.bool false, Value.pointer (some ⟨b, 0, none⟩)]); first
        | ((with_reducible refine Calls.mono (left_any _ (HS.out.below hb)) ?_); rintro e wn ⟨v, rfl, hv, hkk⟩; obtain ⟨oLA, qLA, rfl, hoLA⟩ := hv.shape'; have hb := hb.trans (hkk.mono hb.size); have b1 := b1.below hkk; have b2 := b2.below hkk; have b3 := b3.below hkk; (try have HLB := Lib.hid (HLB.out.below hkk)); (try have HBL := Lib.hid (HBL.out.below hkk)); (try have HRA := Lib.hid (HRA.out.below hkk)); (try have HRB := Lib.hid (HRB.out.below hkk)); (try have HBR := Lib.hid (HBR.out.below hkk)); have HLA : Hid (IDV wn l (Value.agg #[Value.bool oLA, Value.pointer qLA])) := Lib.hid hv; clear hv; (try have bx1 := bx1.below hkk); clear hkk; have m0 : wn.heap.size ≠ B := b1.ne; have m1 : wn.heap.size ≠ D := b2.ne; have m2 : wn.heap.size ≠ C := b3.ne; (try (have cx10 := bx1.c0; have cx11 := bx1.c1; have fx10 := bx1.f0; have fx11 := bx1.f1; have lx1 := bx1.lt; have nx1 := bx1.ne)))
        | (have bx1 := Bx.drew (new_of (n := w9.heap.size) hb0 rfl); have eB : w9.heap.size ≠ B := b10.ne; have eD : w9.heap.size ≠ D := b20.ne; have eC : w9.heap.size ≠ C := b30.ne; have hx1 : w.heap.size ≤ w9.heap.size := hb0.size; have hb := bdrew (hb0.alloc hb0.size (.cells #[.bool false, .pointer none] 31)); have b1 := (b10.alloc (.cells #[.bool false, .pointer none] 31)).drew; have b2 := (b20.alloc (.cells #[.bool false, .pointer none] 31)).drew; have b3 := (b30.alloc (.cells #[.bool false, .pointer none] 31)).drew; (with_reducible refine Calls.mono (left_any _ (HS.out.below hb)) ?_); rintro e wn ⟨v, rfl, hv, hkk⟩; obtain ⟨oLA, qLA, rfl, hoLA⟩ := hv.shape'; have hb := hb.trans (hkk.mono hb.size); have b1 := b1.below hkk; have b2 := b2.below hkk; have b3 := b3.below hkk; (try have HLB := Lib.hid (HLB.out.below hkk)); (try have HBL := Lib.hid (HBL.out.below hkk)); (try have HRA := Lib.hid (HRA.out.below hkk)); (try have HRB := Lib.hid (HRB.out.below hkk)); (try have HBR := Lib.hid (HBR.out.below hkk)); have HLA : Hid (IDV wn l (Value.agg #[Value.bool oLA, Value.pointer qLA])) := Lib.hid hv; clear hv; (try have bx1 := bx1.below hkk); clear hkk; have m0 : wn.heap.size ≠ B := b1.ne; have m1 : wn.heap.size ≠ D := b2.ne; have m2 : wn.heap.size ≠ C := b3.ne; (try (have cx10 := bx1.c0; have cx11 := bx1.c1; have fx10 := bx1.f0; have fx11 := bx1.f1; have lx1 := bx1.lt; have nx1 := bx1.ne))))
      | (go_at_call_of 32 (Value.agg #[Value.bool false, Value.pointer (some ⟨c, 0, none⟩)]); first
        | ((with_reducible refine Calls.mono (left_any _ (HT.out.below hb)) ?_); rintro e wn ⟨v, rfl, hv, hkk⟩; obtain ⟨oLB, qLB, rfl, hoLB⟩ := hv.shape'; have hb := hb.trans (hkk.mono hb.size); have b1 := b1.below hkk; have b2 := b2.below hkk; have b3 := b3.below hkk; (try have HLA := Lib.hid (HLA.out.below hkk)); (try have HBL := Lib.hid (HBL.out.below hkk)); (try have HRA := Lib.hid (HRA.out.below hkk)); (try have HRB := Lib.hid (HRB.out.below hkk)); (try have HBR := Lib.hid (HBR.out.below hkk)); have HLB : Hid (IDV wn l' (Value.agg #[Value.bool oLB, Value.pointer qLB])) := Lib.hid hv; clear hv; (try have bx1 := bx1.below hkk); clear hkk; have m0 : wn.heap.size ≠ B := b1.ne; have m1 : wn.heap.size ≠ D := b2.ne; have m2 : wn.heap.size ≠ C := b3.ne; (try (have cx10 := bx1.c0; have cx11 := bx1.c1; have fx10 := bx1.f0; have fx11 := bx1.f1; have lx1 := bx1.lt; have nx1 := bx1.ne)))
        | (have bx1 := new_of (n := wn.heap.size) hb rfl; have eB : wn.heap.size ≠ B := b1.ne; have eD : wn.heap.size ≠ D := b2.ne; have eC : wn.heap.size ≠ C := b3.ne; have hx1 : w.heap.size ≤ wn.heap.size := hb.size; have hb := hb.alloc hb.size (.cells #[.bool false, .pointer none] 31); have b1 := b1.alloc (.cells #[.bool false, .pointer none] 31); have b2 := b2.alloc (.cells #[.bool false, .pointer none] 31); have b3 := b3.alloc (.cells #[.bool false, .pointer none] 31); (try have HLA := Lib.hid (HLA.out.alloc (.cells #[.bool false, .pointer none] 31))); (try have HLB := Lib.hid (HLB.out.alloc (.cells #[.bool false, .pointer none] 31))); (try have HBL := Lib.hid (HBL.out.alloc (.cells #[.bool false, .pointer none] 31))); (try have HRA := Lib.hid (HRA.out.alloc (.cells #[.bool false, .pointer none] 31))); (try have HRB := Lib.hid (HRB.out.alloc (.cells #[.bool false, .pointer none] 31))); (try have HBR := Lib.hid (HBR.out.alloc (.cells #[.bool false, .pointer none] 31))); (with_reducible refine Calls.mono (left_any _ (HT.out.below hb)) ?_); rintro e wn ⟨v, rfl, hv, hkk⟩; obtain ⟨oLB, qLB, rfl, hoLB⟩ := hv.shape'; have hb := hb.trans (hkk.mono hb.size); have b1 := b1.below hkk; have b2 := b2.below hkk; have b3 := b3.below hkk; (try have HLA := Lib.hid (HLA.out.below hkk)); (try have HBL := Lib.hid (HBL.out.below hkk)); (try have HRA := Lib.hid (HRA.out.below hkk)); (try have HRB := Lib.hid (HRB.out.below hkk)); (try have HBR := Lib.hid (HBR.out.below hkk)); have HLB : Hid (IDV wn l' (Value.agg #[Value.bool oLB, Value.pointer qLB])) := Lib.hid hv; clear hv; (try have bx1 := bx1.below hkk); clear hkk; have m0 : wn.heap.size ≠ B := b1.ne; have m1 : wn.heap.size ≠ D := b2.ne; have m2 : wn.heap.size ≠ C := b3.ne; (try (have cx10 := bx1.c0; have cx11 := bx1.c1; have fx10 := bx1.f0; have fx11 := bx1.f1; have lx1 := bx1.lt; have nx1 := bx1.ne))))
      | (go_at_call 69; first
        | ((with_reducible refine Calls.mono (IL.out _ _ _ dl dl' HLA.out HLB.out) ?_); rintro e wn ⟨v, rfl, hv, hkk⟩; obtain ⟨oBL, qBL, rfl, hoBL⟩ := hv.shape'; have hb := hb.trans (hkk.mono hb.size); have b1 := b1.below hkk; have b2 := b2.below hkk; have b3 := b3.below hkk; (try have HLA := Lib.hid (HLA.out.below hkk)); (try have HLB := Lib.hid (HLB.out.below hkk)); (try have HRA := Lib.hid (HRA.out.below hkk)); (try have HRB := Lib.hid (HRB.out.below hkk)); (try have HBR := Lib.hid (HBR.out.below hkk)); have HBL : Hid (IDV wn (l.both l') (Value.agg #[Value.bool oBL, Value.pointer qBL])) := Lib.hid hv; clear hv; (try have bx1 := bx1.below hkk); clear hkk; have m0 : wn.heap.size ≠ B := b1.ne; have m1 : wn.heap.size ≠ D := b2.ne; have m2 : wn.heap.size ≠ C := b3.ne; (try (have cx10 := bx1.c0; have cx11 := bx1.c1; have fx10 := bx1.f0; have fx11 := bx1.f1; have lx1 := bx1.lt; have nx1 := bx1.ne)))
        | (have bx1 := new_of (n := wn.heap.size) hb rfl; have eB : wn.heap.size ≠ B := b1.ne; have eD : wn.heap.size ≠ D := b2.ne; have eC : wn.heap.size ≠ C := b3.ne; have hx1 : w.heap.size ≤ wn.heap.size := hb.size; have hb := hb.alloc hb.size (.cells #[.bool false, .pointer none] 31); have b1 := b1.alloc (.cells #[.bool false, .pointer none] 31); have b2 := b2.alloc (.cells #[.bool false, .pointer none] 31); have b3 := b3.alloc (.cells #[.bool false, .pointer none] 31); (try have HLA := Lib.hid (HLA.out.alloc (.cells #[.bool false, .pointer none] 31))); (try have HLB := Lib.hid (HLB.out.alloc (.cells #[.bool false, .pointer none] 31))); (try have HBL := Lib.hid (HBL.out.alloc (.cells #[.bool false, .pointer none] 31))); (try have HRA := Lib.hid (HRA.out.alloc (.cells #[.bool false, .pointer none] 31))); (try have HRB := Lib.hid (HRB.out.alloc (.cells #[.bool false, .pointer none] 31))); (try have HBR := Lib.hid (HBR.out.alloc (.cells #[.bool false, .pointer none] 31))); (with_reducible refine Calls.mono (IL.out _ _ _ dl dl' HLA.out HLB.out) ?_); rintro e wn ⟨v, rfl, hv, hkk⟩; obtain ⟨oBL, qBL, rfl, hoBL⟩ := hv.shape'; have hb := hb.trans (hkk.mono hb.size); have b1 := b1.below hkk; have b2 := b2.below hkk; have b3 := b3.below hkk; (try have HLA := Lib.hid (HLA.out.below hkk)); (try have HLB := Lib.hid (HLB.out.below hkk)); (try have HRA := Lib.hid (HRA.out.below hkk)); (try have HRB := Lib.hid (HRB.out.below hkk)); (try have HBR := Lib.hid (HBR.out.below hkk)); have HBL : Hid (IDV wn (l.both l') (Value.agg #[Value.bool oBL, Value.pointer qBL])) := Lib.hid hv; clear hv; (try have bx1 := bx1.below hkk); clear hkk; have m0 : wn.heap.size ≠ B := b1.ne; have m1 : wn.heap.size ≠ D := b2.ne; have m2 : wn.heap.size ≠ C := b3.ne; (try (have cx10 := bx1.c0; have cx11 := bx1.c1; have fx10 := bx1.f0; have fx11 := bx1.f1; have lx1 := bx1.lt; have nx1 := bx1.ne))))
      | (go_at_call_of 33 (Value.agg #[Value.bool false, Value.pointer (some ⟨b, 0, none⟩)]); first
        | ((with_reducible refine Calls.mono (right_any _ (HS.out.below hb)) ?_); rintro e wn ⟨v, rfl, hv, hkk⟩; obtain ⟨oRA, qRA, rfl, hoRA⟩ := hv.shape'; have hb := hb.trans (hkk.mono hb.size); have b1 := b1.below hkk; have b2 := b2.below hkk; have b3 := b3.below hkk; (try have HLA := Lib.hid (HLA.out.below hkk)); (try have HLB := Lib.hid (HLB.out.below hkk)); (try have HBL := Lib.hid (HBL.out.below hkk)); (try have HRB := Lib.hid (HRB.out.below hkk)); (try have HBR := Lib.hid (HBR.out.below hkk)); have HRA : Hid (IDV wn r (Value.agg #[Value.bool oRA, Value.pointer qRA])) := Lib.hid hv; clear hv; (try have bx1 := bx1.below hkk); clear hkk; have m0 : wn.heap.size ≠ B := b1.ne; have m1 : wn.heap.size ≠ D := b2.ne; have m2 : wn.heap.size ≠ C := b3.ne; (try (have cx10 := bx1.c0; have cx11 := bx1.c1; have fx10 := bx1.f0; have fx11 := bx1.f1; have lx1 := bx1.lt; have nx1 := bx1.ne)))
        | (have bx1 := new_of (n := wn.heap.size) hb rfl; have eB : wn.heap.size ≠ B := b1.ne; have eD : wn.heap.size ≠ D := b2.ne; have eC : wn.heap.size ≠ C := b3.ne; have hx1 : w.heap.size ≤ wn.heap.size := hb.size; have hb := hb.alloc hb.size (.cells #[.bool false, .pointer none] 31); have b1 := b1.alloc (.cells #[.bool false, .pointer none] 31); have b2 := b2.alloc (.cells #[.bool false, .pointer none] 31); have b3 := b3.alloc (.cells #[.bool false, .pointer none] 31); (try have HLA := Lib.hid (HLA.out.alloc (.cells #[.bool false, .pointer none] 31))); (try have HLB := Lib.hid (HLB.out.alloc (.cells #[.bool false, .pointer none] 31))); (try have HBL := Lib.hid (HBL.out.alloc (.cells #[.bool false, .pointer none] 31))); (try have HRA := Lib.hid (HRA.out.alloc (.cells #[.bool false, .pointer none] 31))); (try have HRB := Lib.hid (HRB.out.alloc (.cells #[.bool false, .pointer none] 31))); (try have HBR := Lib.hid (HBR.out.alloc (.cells #[.bool false, .pointer none] 31))); (with_reducible refine Calls.mono (right_any _ (HS.out.below hb)) ?_); rintro e wn ⟨v, rfl, hv, hkk⟩; obtain ⟨oRA, qRA, rfl, hoRA⟩ := hv.shape'; have hb := hb.trans (hkk.mono hb.size); have b1 := b1.below hkk; have b2 := b2.below hkk; have b3 := b3.below hkk; (try have HLA := Lib.hid (HLA.out.below hkk)); (try have HLB := Lib.hid (HLB.out.below hkk)); (try have HBL := Lib.hid (HBL.out.below hkk)); (try have HRB := Lib.hid (HRB.out.below hkk)); (try have HBR := Lib.hid (HBR.out.below hkk)); have HRA : Hid (IDV wn r (Value.agg #[Value.bool oRA, Value.pointer qRA])) := Lib.hid hv; clear hv; (try have bx1 := bx1.below hkk); clear hkk; have m0 : wn.heap.size ≠ B := b1.ne; have m1 : wn.heap.size ≠ D := b2.ne; have m2 : wn.heap.size ≠ C := b3.ne; (try (have cx10 := bx1.c0; have cx11 := bx1.c1; have fx10 := bx1.f0; have fx11 := bx1.f1; have lx1 := bx1.lt; have nx1 := bx1.ne))))
      | (go_at_call_of 33 (Value.agg #[Value.bool false, Value.pointer (some ⟨c, 0, none⟩)]); first
        | ((with_reducible refine Calls.mono (right_any _ (HT.out.below hb)) ?_); rintro e wn ⟨v, rfl, hv, hkk⟩; obtain ⟨oRB, qRB, rfl, hoRB⟩ := hv.shape'; have hb := hb.trans (hkk.mono hb.size); have b1 := b1.below hkk; have b2 := b2.below hkk; have b3 := b3.below hkk; (try have HLA := Lib.hid (HLA.out.below hkk)); (try have HLB := Lib.hid (HLB.out.below hkk)); (try have HBL := Lib.hid (HBL.out.below hkk)); (try have HRA := Lib.hid (HRA.out.below hkk)); (try have HBR := Lib.hid (HBR.out.below hkk)); have HRB : Hid (IDV wn r' (Value.agg #[Value.bool oRB, Value.pointer qRB])) := Lib.hid hv; clear hv; (try have bx1 := bx1.below hkk); clear hkk; have m0 : wn.heap.size ≠ B := b1.ne; have m1 : wn.heap.size ≠ D := b2.ne; have m2 : wn.heap.size ≠ C := b3.ne; (try (have cx10 := bx1.c0; have cx11 := bx1.c1; have fx10 := bx1.f0; have fx11 := bx1.f1; have lx1 := bx1.lt; have nx1 := bx1.ne)))
        | (have bx1 := new_of (n := wn.heap.size) hb rfl; have eB : wn.heap.size ≠ B := b1.ne; have eD : wn.heap.size ≠ D := b2.ne; have eC : wn.heap.size ≠ C := b3.ne; have hx1 : w.heap.size ≤ wn.heap.size := hb.size; have hb := hb.alloc hb.size (.cells #[.bool false, .pointer none] 31); have b1 := b1.alloc (.cells #[.bool false, .pointer none] 31); have b2 := b2.alloc (.cells #[.bool false, .pointer none] 31); have b3 := b3.alloc (.cells #[.bool false, .pointer none] 31); (try have HLA := Lib.hid (HLA.out.alloc (.cells #[.bool false, .pointer none] 31))); (try have HLB := Lib.hid (HLB.out.alloc (.cells #[.bool false, .pointer none] 31))); (try have HBL := Lib.hid (HBL.out.alloc (.cells #[.bool false, .pointer none] 31))); (try have HRA := Lib.hid (HRA.out.alloc (.cells #[.bool false, .pointer none] 31))); (try have HRB := Lib.hid (HRB.out.alloc (.cells #[.bool false, .pointer none] 31))); (try have HBR := Lib.hid (HBR.out.alloc (.cells #[.bool false, .pointer none] 31))); (with_reducible refine Calls.mono (right_any _ (HT.out.below hb)) ?_); rintro e wn ⟨v, rfl, hv, hkk⟩; obtain ⟨oRB, qRB, rfl, hoRB⟩ := hv.shape'; have hb := hb.trans (hkk.mono hb.size); have b1 := b1.below hkk; have b2 := b2.below hkk; have b3 := b3.below hkk; (try have HLA := Lib.hid (HLA.out.below hkk)); (try have HLB := Lib.hid (HLB.out.below hkk)); (try have HBL := Lib.hid (HBL.out.below hkk)); (try have HRA := Lib.hid (HRA.out.below hkk)); (try have HBR := Lib.hid (HBR.out.below hkk)); have HRB : Hid (IDV wn r' (Value.agg #[Value.bool oRB, Value.pointer qRB])) := Lib.hid hv; clear hv; (try have bx1 := bx1.below hkk); clear hkk; have m0 : wn.heap.size ≠ B := b1.ne; have m1 : wn.heap.size ≠ D := b2.ne; have m2 : wn.heap.size ≠ C := b3.ne; (try (have cx10 := bx1.c0; have cx11 := bx1.c1; have fx10 := bx1.f0; have fx11 := bx1.f1; have lx1 := bx1.lt; have nx1 := bx1.ne))))
      | (go_at_call 69; first
        | ((with_reducible refine Calls.mono (IR.out _ _ _ dr dr' HRA.out HRB.out) ?_); rintro e wn ⟨v, rfl, hv, hkk⟩; obtain ⟨oBR, qBR, rfl, hoBR⟩ := hv.shape'; have hb := hb.trans (hkk.mono hb.size); have b1 := b1.below hkk; have b2 := b2.below hkk; have b3 := b3.below hkk; (try have HLA := Lib.hid (HLA.out.below hkk)); (try have HLB := Lib.hid (HLB.out.below hkk)); (try have HBL := Lib.hid (HBL.out.below hkk)); (try have HRA := Lib.hid (HRA.out.below hkk)); (try have HRB := Lib.hid (HRB.out.below hkk)); have HBR : Hid (IDV wn (r.both r') (Value.agg #[Value.bool oBR, Value.pointer qBR])) := Lib.hid hv; clear hv; (try have bx1 := bx1.below hkk); clear hkk; have m0 : wn.heap.size ≠ B := b1.ne; have m1 : wn.heap.size ≠ D := b2.ne; have m2 : wn.heap.size ≠ C := b3.ne; (try (have cx10 := bx1.c0; have cx11 := bx1.c1; have fx10 := bx1.f0; have fx11 := bx1.f1; have lx1 := bx1.lt; have nx1 := bx1.ne)))
        | (have bx1 := new_of (n := wn.heap.size) hb rfl; have eB : wn.heap.size ≠ B := b1.ne; have eD : wn.heap.size ≠ D := b2.ne; have eC : wn.heap.size ≠ C := b3.ne; have hx1 : w.heap.size ≤ wn.heap.size := hb.size; have hb := hb.alloc hb.size (.cells #[.bool false, .pointer none] 31); have b1 := b1.alloc (.cells #[.bool false, .pointer none] 31); have b2 := b2.alloc (.cells #[.bool false, .pointer none] 31); have b3 := b3.alloc (.cells #[.bool false, .pointer none] 31); (try have HLA := Lib.hid (HLA.out.alloc (.cells #[.bool false, .pointer none] 31))); (try have HLB := Lib.hid (HLB.out.alloc (.cells #[.bool false, .pointer none] 31))); (try have HBL := Lib.hid (HBL.out.alloc (.cells #[.bool false, .pointer none] 31))); (try have HRA := Lib.hid (HRA.out.alloc (.cells #[.bool false, .pointer none] 31))); (try have HRB := Lib.hid (HRB.out.alloc (.cells #[.bool false, .pointer none] 31))); (try have HBR := Lib.hid (HBR.out.alloc (.cells #[.bool false, .pointer none] 31))); (with_reducible refine Calls.mono (IR.out _ _ _ dr dr' HRA.out HRB.out) ?_); rintro e wn ⟨v, rfl, hv, hkk⟩; obtain ⟨oBR, qBR, rfl, hoBR⟩ := hv.shape'; have hb := hb.trans (hkk.mono hb.size); have b1 := b1.below hkk; have b2 := b2.below hkk; have b3 := b3.below hkk; (try have HLA := Lib.hid (HLA.out.below hkk)); (try have HLB := Lib.hid (HLB.out.below hkk)); (try have HBL := Lib.hid (HBL.out.below hkk)); (try have HRA := Lib.hid (HRA.out.below hkk)); (try have HRB := Lib.hid (HRB.out.below hkk)); have HBR : Hid (IDV wn (r.both r') (Value.agg #[Value.bool oBR, Value.pointer qBR])) := Lib.hid hv; clear hv; (try have bx1 := bx1.below hkk); clear hkk; have m0 : wn.heap.size ≠ B := b1.ne; have m1 : wn.heap.size ≠ D := b2.ne; have m2 : wn.heap.size ≠ C := b3.ne; (try (have cx10 := bx1.c0; have cx11 := bx1.c1; have fx10 := bx1.f0; have fx11 := bx1.f1; have lx1 := bx1.lt; have nx1 := bx1.ne))))
      | (go_at_call 26; first
        | ((with_reducible refine Calls.mono (Pair_is _ HBL.out HBR.out d1 d2 HPR.out) ?_); rintro e wn ⟨v, rfl, hv, hkk⟩; obtain ⟨oPP, qPP, rfl, hoPP⟩ := hv.shape'; have hb := hb.trans (hkk.mono hb.size); have b1 := b1.below hkk; have b2 := b2.below hkk; have b3 := b3.below hkk; (try have HLA := Lib.hid (HLA.out.below hkk)); (try have HLB := Lib.hid (HLB.out.below hkk)); (try have HBL := Lib.hid (HBL.out.below hkk)); (try have HRA := Lib.hid (HRA.out.below hkk)); (try have HRB := Lib.hid (HRB.out.below hkk)); (try have HBR := Lib.hid (HBR.out.below hkk)); have HPP : Hid (IDV wn (T.both (.n l r) (.n l' r')) (Value.agg #[Value.bool oPP, Value.pointer qPP])) := Lib.hid hv; clear hv; (try have bx1 := bx1.below hkk); clear hkk; have m0 : wn.heap.size ≠ B := b1.ne; have m1 : wn.heap.size ≠ D := b2.ne; have m2 : wn.heap.size ≠ C := b3.ne; (try (have cx10 := bx1.c0; have cx11 := bx1.c1; have fx10 := bx1.f0; have fx11 := bx1.f1; have lx1 := bx1.lt; have nx1 := bx1.ne)))
        | (have bx1 := new_of (n := wn.heap.size) hb rfl; have eB : wn.heap.size ≠ B := b1.ne; have eD : wn.heap.size ≠ D := b2.ne; have eC : wn.heap.size ≠ C := b3.ne; have hx1 : w.heap.size ≤ wn.heap.size := hb.size; have hb := hb.alloc hb.size (.cells #[.bool false, .pointer none] 31); have b1 := b1.alloc (.cells #[.bool false, .pointer none] 31); have b2 := b2.alloc (.cells #[.bool false, .pointer none] 31); have b3 := b3.alloc (.cells #[.bool false, .pointer none] 31); (try have HLA := Lib.hid (HLA.out.alloc (.cells #[.bool false, .pointer none] 31))); (try have HLB := Lib.hid (HLB.out.alloc (.cells #[.bool false, .pointer none] 31))); (try have HBL := Lib.hid (HBL.out.alloc (.cells #[.bool false, .pointer none] 31))); (try have HRA := Lib.hid (HRA.out.alloc (.cells #[.bool false, .pointer none] 31))); (try have HRB := Lib.hid (HRB.out.alloc (.cells #[.bool false, .pointer none] 31))); (try have HBR := Lib.hid (HBR.out.alloc (.cells #[.bool false, .pointer none] 31))); (with_reducible refine Calls.mono (Pair_is _ HBL.out HBR.out d1 d2 HPR.out) ?_); rintro e wn ⟨v, rfl, hv, hkk⟩; obtain ⟨oPP, qPP, rfl, hoPP⟩ := hv.shape'; have hb := hb.trans (hkk.mono hb.size); have b1 := b1.below hkk; have b2 := b2.below hkk; have b3 := b3.below hkk; (try have HLA := Lib.hid (HLA.out.below hkk)); (try have HLB := Lib.hid (HLB.out.below hkk)); (try have HBL := Lib.hid (HBL.out.below hkk)); (try have HRA := Lib.hid (HRA.out.below hkk)); (try have HRB := Lib.hid (HRB.out.below hkk)); (try have HBR := Lib.hid (HBR.out.below hkk)); have HPP : Hid (IDV wn (T.both (.n l r) (.n l' r')) (Value.agg #[Value.bool oPP, Value.pointer qPP])) := Lib.hid hv; clear hv; (try have bx1 := bx1.below hkk); clear hkk; have m0 : wn.heap.size ≠ B := b1.ne; have m1 : wn.heap.size ≠ D := b2.ne; have m2 : wn.heap.size ≠ C := b3.ne; (try (have cx10 := bx1.c0; have cx11 := bx1.c1; have fx10 := bx1.f0; have fx11 := bx1.f1; have lx1 := bx1.lt; have nx1 := bx1.ne)))))
    all_goals
      go_wp2_with fail
      go_meet
      with_reducible first
        | exact OwnX.new hb HPP.out b3
        | exact OwnX.put hb HPP.out b3 bx1 hx1 eC
  case rest =>
    obtain ⟨X, x, px, rfl, b4, hX, hb, b3, hXB⟩ := hcut
    have HX := Lib.hid hX
    clear hX
    have c10 := b3.c0
    have c11 := b3.c1
    have f10 := b3.f0
    have f11 := b3.f1
    have c20 := b4.c0
    have c21 := b4.c1
    have hf := bput hb (R := C) (by omega) x px
    go_wp2_with fail
    exact bodyPost_ret (v := .agg #[.bool x, .pointer px]) (by simp [results, go_sem, *]) rfl ⟨_, rfl, HX.out.kp (Kp.put b3 x px), by first | exact hf | (rw [← hB]; exact hf)⟩
set_option maxRecDepth 100000 in
set_option maxHeartbeats 3200000 in
theorem both_a1 {s t : T} {u v : Value} (w : World) (z1 : s.isZ = true) (hs : IDV w s u) (ht : IDV w t v) : Calls Try.prog 69 #[u, v] w fun e w' => ∃ x, e = .returned x ∧ IDV w' s x ∧ Below w.heap.size w w' := by
  obtain ⟨o, q, rfl, _⟩ := hs.shape'
  obtain ⟨o2, q2, rfl, _⟩ := ht.shape'
  have HS := Lib.hid hs
  have HT := Lib.hid ht
  have Z1 := Lib.hid z1
  clear z1
  clear hs ht
  have b1 := ((Bx.new w o q).alloc (.cells #[.bool o2, .pointer q2] 31)).alloc (.cells #[.bool false, .pointer none] 31)
  have b2 := (Bx.new (w.alloc (.cells #[.bool o, .pointer q] 31)) o2 q2).alloc (.cells #[.bool false, .pointer none] 31)
  have b3 := Bx.new ((w.alloc (.cells #[.bool o, .pointer q] 31)).alloc (.cells #[.bool o2, .pointer q2] 31)) false none
  have hb := ((bel0 w (.cells #[.bool o, .pointer q] 31)).alloc (by simp) (.cells #[.bool o2, .pointer q2] 31)).alloc (by simp; omega) (.cells #[.bool false, .pointer none] 31)
  simp only [asz] at b2 b3
  go_enter Try.func69, Try.ntmps69
  go_wp2_with fail
  generalize ((w.alloc (.cells #[.bool o, .pointer q] 31)).alloc (.cells #[.bool o2, .pointer q2] 31)).alloc (.cells #[.bool false, .pointer none] 31) = w3 at *
  obtain ⟨B, hB⟩ : ∃ B, w.heap.size = B := ⟨_, rfl⟩
  rw [hB] at b1 b2 b3 ⊢
  obtain ⟨D, hD⟩ : ∃ D, B + 1 = D := ⟨_, rfl⟩
  rw [hD] at b2 b3 ⊢
  obtain ⟨C, hC⟩ : ∃ C, D + 1 = C := ⟨_, rfl⟩
  rw [hC] at b3 ⊢
  have c10 := b1.c0
  have c11 := b1.c1
  have c20 := b2.c0
  have c21 := b2.c1
  have c30 := b3.c0
  have c31 := b3.c1
  have f30 := b3.f0
  have f31 := b3.f1
  go_wp2_with (first
    | (go_at_call_of 24 (Value.agg #[Value.bool o, Value.pointer q]); (refine Calls.mono (isZero_is _ (HS.out.below hb) Z1.out) ?_); rintro e wn ⟨rfl, hkk⟩; have hb := hb.trans (hkk.mono hb.size); have b1 := b1.below hkk; have b2 := b2.below hkk; have b3 := b3.below hkk; clear c10 c11 c20 c21 c30 c31 f30 f31 hkk; have c10 := b1.c0; have c11 := b1.c1; have c20 := b2.c0; have c21 := b2.c1; have c30 := b3.c0; have c31 := b3.c1; have f30 := b3.f0; have f31 := b3.f1))
  have hf := bput hb (R := C) (by omega) o q
  exact bodyPost_ret (v := .agg #[.bool o, .pointer q]) (by simp [results, go_sem, *]) rfl ⟨_, rfl, (HS.out.below hb).kp (Kp.put b3 o q), by first | exact hf | (rw [← hB]; exact hf)⟩
set_option maxRecDepth 100000 in
set_option maxHeartbeats 3200000 in
theorem both_a2 {s t : T} {u v : Value} (w : World) (z1 : s.isZ = false) (o2h : t.isO = true) (hs : IDV w s u) (ht : IDV w t v) : Calls Try.prog 69 #[u, v] w fun e w' => ∃ x, e = .returned x ∧ IDV w' s x ∧ Below w.heap.size w w' := by
  obtain ⟨o, q, rfl, _⟩ := hs.shape'
  obtain ⟨o2, q2, rfl, _⟩ := ht.shape'
  have HS := Lib.hid hs
  have HT := Lib.hid ht
  have Z1 := Lib.hid z1
  have O2 := Lib.hid o2h
  clear z1
  clear hs ht
  have b1 := ((Bx.new w o q).alloc (.cells #[.bool o2, .pointer q2] 31)).alloc (.cells #[.bool false, .pointer none] 31)
  have b2 := (Bx.new (w.alloc (.cells #[.bool o, .pointer q] 31)) o2 q2).alloc (.cells #[.bool false, .pointer none] 31)
  have b3 := Bx.new ((w.alloc (.cells #[.bool o, .pointer q] 31)).alloc (.cells #[.bool o2, .pointer q2] 31)) false none
  have hb := ((bel0 w (.cells #[.bool o, .pointer q] 31)).alloc (by simp) (.cells #[.bool o2, .pointer q2] 31)).alloc (by simp; omega) (.cells #[.bool false, .pointer none] 31)
  simp only [asz] at b2 b3
  go_enter Try.func69, Try.ntmps69
  go_wp2_with fail
  generalize ((w.alloc (.cells #[.bool o, .pointer q] 31)).alloc (.cells #[.bool o2, .pointer q2] 31)).alloc (.cells #[.bool false, .pointer none] 31) = w3 at *
  obtain ⟨B, hB⟩ : ∃ B, w.heap.size = B := ⟨_, rfl⟩
  rw [hB] at b1 b2 b3 ⊢
  obtain ⟨D, hD⟩ : ∃ D, B + 1 = D := ⟨_, rfl⟩
  rw [hD] at b2 b3 ⊢
  obtain ⟨C, hC⟩ : ∃ C, D + 1 = C := ⟨_, rfl⟩
  rw [hC] at b3 ⊢
  have c10 := b1.c0
  have c11 := b1.c1
  have c20 := b2.c0
  have c21 := b2.c1
  have c30 := b3.c0
  have c31 := b3.c1
  have f30 := b3.f0
  have f31 := b3.f1
  go_wp2_with (first
    | (go_at_call_of 24 (Value.agg #[Value.bool o, Value.pointer q]); (refine Calls.mono (isZero_is _ (HS.out.below hb) Z1.out) ?_); rintro e wn ⟨rfl, hkk⟩; have hb := hb.trans (hkk.mono hb.size); have b1 := b1.below hkk; have b2 := b2.below hkk; have b3 := b3.below hkk; clear c10 c11 c20 c21 c30 c31 f30 f31 hkk; have c10 := b1.c0; have c11 := b1.c1; have c20 := b2.c0; have c21 := b2.c1; have c30 := b3.c0; have c31 := b3.c1; have f30 := b3.f0; have f31 := b3.f1)
    | (go_at_call_of 25 (Value.agg #[Value.bool o2, Value.pointer q2]); (refine Calls.mono (isOne_is _ (HT.out.below hb) O2.out) ?_); rintro e wn ⟨rfl, hkk⟩; have hb := hb.trans (hkk.mono hb.size); have b1 := b1.below hkk; have b2 := b2.below hkk; have b3 := b3.below hkk; clear c10 c11 c20 c21 c30 c31 f30 f31 hkk; have c10 := b1.c0; have c11 := b1.c1; have c20 := b2.c0; have c21 := b2.c1; have c30 := b3.c0; have c31 := b3.c1; have f30 := b3.f0; have f31 := b3.f1))
  have hf := bput hb (R := C) (by omega) o q
  exact bodyPost_ret (v := .agg #[.bool o, .pointer q]) (by simp [results, go_sem, *]) rfl ⟨_, rfl, (HS.out.below hb).kp (Kp.put b3 o q), by first | exact hf | (rw [← hB]; exact hf)⟩
set_option maxRecDepth 100000 in
set_option maxHeartbeats 3200000 in
theorem both_b1 {s t : T} {u v : Value} (w : World) (z1 : s.isZ = false) (oh : t.isO = false) (z2 : t.isZ = true) (hs : IDV w s u) (ht : IDV w t v) : Calls Try.prog 69 #[u, v] w fun e w' => ∃ x, e = .returned x ∧ IDV w' t x ∧ Below w.heap.size w w' := by
  obtain ⟨o, q, rfl, _⟩ := hs.shape'
  obtain ⟨o2, q2, rfl, _⟩ := ht.shape'
  have HS := Lib.hid hs
  have HT := Lib.hid ht
  have Z1 := Lib.hid z1
  have O2 := Lib.hid oh
  have Z2 := Lib.hid z2
  clear z1
  clear hs ht
  have b1 := ((Bx.new w o q).alloc (.cells #[.bool o2, .pointer q2] 31)).alloc (.cells #[.bool false, .pointer none] 31)
  have b2 := (Bx.new (w.alloc (.cells #[.bool o, .pointer q] 31)) o2 q2).alloc (.cells #[.bool false, .pointer none] 31)
  have b3 := Bx.new ((w.alloc (.cells #[.bool o, .pointer q] 31)).alloc (.cells #[.bool o2, .pointer q2] 31)) false none
  have hb := ((bel0 w (.cells #[.bool o, .pointer q] 31)).alloc (by simp) (.cells #[.bool o2, .pointer q2] 31)).alloc (by simp; omega) (.cells #[.bool false, .pointer none] 31)
  simp only [asz] at b2 b3
  go_enter Try.func69, Try.ntmps69
  go_wp2_with fail
  generalize ((w.alloc (.cells #[.bool o, .pointer q] 31)).alloc (.cells #[.bool o2, .pointer q2] 31)).alloc (.cells #[.bool false, .pointer none] 31) = w3 at *
  obtain ⟨B, hB⟩ : ∃ B, w.heap.size = B := ⟨_, rfl⟩
  rw [hB] at b1 b2 b3 ⊢
  obtain ⟨D, hD⟩ : ∃ D, B + 1 = D := ⟨_, rfl⟩
  rw [hD] at b2 b3 ⊢
  obtain ⟨C, hC⟩ : ∃ C, D + 1 = C := ⟨_, rfl⟩
  rw [hC] at b3 ⊢
  have c10 := b1.c0
  have c11 := b1.c1
  have c20 := b2.c0
  have c21 := b2.c1
  have c30 := b3.c0
  have c31 := b3.c1
  have f30 := b3.f0
  have f31 := b3.f1
  go_wp2_with (first
    | (go_at_call_of 24 (Value.agg #[Value.bool o, Value.pointer q]); (refine Calls.mono (isZero_is _ (HS.out.below hb) Z1.out) ?_); rintro e wn ⟨rfl, hkk⟩; have hb := hb.trans (hkk.mono hb.size); have b1 := b1.below hkk; have b2 := b2.below hkk; have b3 := b3.below hkk; clear c10 c11 c20 c21 c30 c31 f30 f31 hkk; have c10 := b1.c0; have c11 := b1.c1; have c20 := b2.c0; have c21 := b2.c1; have c30 := b3.c0; have c31 := b3.c1; have f30 := b3.f0; have f31 := b3.f1)
    | (go_at_call_of 25 (Value.agg #[Value.bool o2, Value.pointer q2]); (refine Calls.mono (isOne_is _ (HT.out.below hb) O2.out) ?_); rintro e wn ⟨rfl, hkk⟩; have hb := hb.trans (hkk.mono hb.size); have b1 := b1.below hkk; have b2 := b2.below hkk; have b3 := b3.below hkk; clear c10 c11 c20 c21 c30 c31 f30 f31 hkk; have c10 := b1.c0; have c11 := b1.c1; have c20 := b2.c0; have c21 := b2.c1; have c30 := b3.c0; have c31 := b3.c1; have f30 := b3.f0; have f31 := b3.f1)
    | (go_at_call_of 24 (Value.agg #[Value.bool o2, Value.pointer q2]); (refine Calls.mono (isZero_is _ (HT.out.below hb) Z2.out) ?_); rintro e wn ⟨rfl, hkk⟩; have hb := hb.trans (hkk.mono hb.size); have b1 := b1.below hkk; have b2 := b2.below hkk; have b3 := b3.below hkk; clear c10 c11 c20 c21 c30 c31 f30 f31 hkk; have c10 := b1.c0; have c11 := b1.c1; have c20 := b2.c0; have c21 := b2.c1; have c30 := b3.c0; have c31 := b3.c1; have f30 := b3.f0; have f31 := b3.f1))
  have hf := bput hb (R := C) (by omega) o2 q2
  exact bodyPost_ret (v := .agg #[.bool o2, .pointer q2]) (by simp [results, go_sem, *]) rfl ⟨_, rfl, (HT.out.below hb).kp (Kp.put b3 o2 q2), by first | exact hf | (rw [← hB]; exact hf)⟩
set_option maxRecDepth 100000 in
set_option maxHeartbeats 3200000 in
theorem both_b2 {s t : T} {u v : Value} (w : World) (z1 : s.isZ = false) (oh : t.isO = false) (z2 : t.isZ = false) (oh1 : s.isO = true) (hs : IDV w s u) (ht : IDV w t v) : Calls Try.prog 69 #[u, v] w fun e w' => ∃ x, e = .returned x ∧ IDV w' t x ∧ Below w.heap.size w w' := by
  obtain ⟨o, q, rfl, _⟩ := hs.shape'
  obtain ⟨o2, q2, rfl, _⟩ := ht.shape'
  have HS := Lib.hid hs
  have HT := Lib.hid ht
  have Z1 := Lib.hid z1
  have O2 := Lib.hid oh
  have Z2 := Lib.hid z2
  have O1 := Lib.hid oh1
  clear z1
  clear hs ht
  have b1 := ((Bx.new w o q).alloc (.cells #[.bool o2, .pointer q2] 31)).alloc (.cells #[.bool false, .pointer none] 31)
  have b2 := (Bx.new (w.alloc (.cells #[.bool o, .pointer q] 31)) o2 q2).alloc (.cells #[.bool false, .pointer none] 31)
  have b3 := Bx.new ((w.alloc (.cells #[.bool o, .pointer q] 31)).alloc (.cells #[.bool o2, .pointer q2] 31)) false none
  have hb := ((bel0 w (.cells #[.bool o, .pointer q] 31)).alloc (by simp) (.cells #[.bool o2, .pointer q2] 31)).alloc (by simp; omega) (.cells #[.bool false, .pointer none] 31)
  simp only [asz] at b2 b3
  go_enter Try.func69, Try.ntmps69
  go_wp2_with fail
  generalize ((w.alloc (.cells #[.bool o, .pointer q] 31)).alloc (.cells #[.bool o2, .pointer q2] 31)).alloc (.cells #[.bool false, .pointer none] 31) = w3 at *
  obtain ⟨B, hB⟩ : ∃ B, w.heap.size = B := ⟨_, rfl⟩
  rw [hB] at b1 b2 b3 ⊢
  obtain ⟨D, hD⟩ : ∃ D, B + 1 = D := ⟨_, rfl⟩
  rw [hD] at b2 b3 ⊢
  obtain ⟨C, hC⟩ : ∃ C, D + 1 = C := ⟨_, rfl⟩
  rw [hC] at b3 ⊢
  have c10 := b1.c0
  have c11 := b1.c1
  have c20 := b2.c0
  have c21 := b2.c1
  have c30 := b3.c0
  have c31 := b3.c1
  have f30 := b3.f0
  have f31 := b3.f1
  go_wp2_with (first
    | (go_at_call_of 24 (Value.agg #[Value.bool o, Value.pointer q]); (refine Calls.mono (isZero_is _ (HS.out.below hb) Z1.out) ?_); rintro e wn ⟨rfl, hkk⟩; have hb := hb.trans (hkk.mono hb.size); have b1 := b1.below hkk; have b2 := b2.below hkk; have b3 := b3.below hkk; clear c10 c11 c20 c21 c30 c31 f30 f31 hkk; have c10 := b1.c0; have c11 := b1.c1; have c20 := b2.c0; have c21 := b2.c1; have c30 := b3.c0; have c31 := b3.c1; have f30 := b3.f0; have f31 := b3.f1)
    | (go_at_call_of 25 (Value.agg #[Value.bool o2, Value.pointer q2]); (refine Calls.mono (isOne_is _ (HT.out.below hb) O2.out) ?_); rintro e wn ⟨rfl, hkk⟩; have hb := hb.trans (hkk.mono hb.size); have b1 := b1.below hkk; have b2 := b2.below hkk; have b3 := b3.below hkk; clear c10 c11 c20 c21 c30 c31 f30 f31 hkk; have c10 := b1.c0; have c11 := b1.c1; have c20 := b2.c0; have c21 := b2.c1; have c30 := b3.c0; have c31 := b3.c1; have f30 := b3.f0; have f31 := b3.f1)
    | (go_at_call_of 24 (Value.agg #[Value.bool o2, Value.pointer q2]); (refine Calls.mono (isZero_is _ (HT.out.below hb) Z2.out) ?_); rintro e wn ⟨rfl, hkk⟩; have hb := hb.trans (hkk.mono hb.size); have b1 := b1.below hkk; have b2 := b2.below hkk; have b3 := b3.below hkk; clear c10 c11 c20 c21 c30 c31 f30 f31 hkk; have c10 := b1.c0; have c11 := b1.c1; have c20 := b2.c0; have c21 := b2.c1; have c30 := b3.c0; have c31 := b3.c1; have f30 := b3.f0; have f31 := b3.f1)
    | (go_at_call_of 25 (Value.agg #[Value.bool o, Value.pointer q]); (refine Calls.mono (isOne_is _ (HS.out.below hb) O1.out) ?_); rintro e wn ⟨rfl, hkk⟩; have hb := hb.trans (hkk.mono hb.size); have b1 := b1.below hkk; have b2 := b2.below hkk; have b3 := b3.below hkk; clear c10 c11 c20 c21 c30 c31 f30 f31 hkk; have c10 := b1.c0; have c11 := b1.c1; have c20 := b2.c0; have c21 := b2.c1; have c30 := b3.c0; have c31 := b3.c1; have f30 := b3.f0; have f31 := b3.f1))
  have hf := bput hb (R := C) (by omega) o2 q2
  exact bodyPost_ret (v := .agg #[.bool o2, .pointer q2]) (by simp [results, go_sem, *]) rfl ⟨_, rfl, (HT.out.below hb).kp (Kp.put b3 o2 q2), by first | exact hf | (rw [← hB]; exact hf)⟩
theorem both_any : ∀ s t : T, BothOk s t
  | .z, t => fun _ _ w _ _ hs ht => both_a1 w rfl hs ht
  | .o, .o => fun _ _ w _ _ hs ht => both_a2 w rfl rfl hs ht
  | .o, .z => fun _ _ w _ _ hs ht => both_b1 w rfl rfl rfl hs ht
  | .o, .n _ _ => fun _ _ w _ _ hs ht => both_b2 w rfl rfl rfl rfl hs ht
  | .n _ _, .z => fun _ _ w _ _ hs ht => both_b1 w rfl rfl rfl hs ht
  | .n _ _, .o => fun _ _ w _ _ hs ht => both_a2 w rfl rfl hs ht
  | .n l r, .n l' r' => both_n (both_any l l') (both_any r r')
/-- What two ids have in common, measured. -/
theorem Common_is {s t : T} {u v : Value} (w : World) (ds : s.depth ≤ 16) (dt : t.depth ≤ 16) (hs : IDV w s u) (ht : IDV w t v) :
    Calls Try.prog 46 #[u, v] w fun e w' => e = .returned (.complex .f64 (fl (wd (s.both t) 65536)) (fl (65536 * ct (s.both t)))) ∧ Below w.heap.size w w' := by
  obtain ⟨o, q, rfl, _⟩ := hs.shape'
  obtain ⟨o2, q2, rfl, _⟩ := ht.shape'
  have HS := Lib.hid hs
  have HT := Lib.hid ht
  have d := both_depth s t
  have hd : (s.both t).depth ≤ 16 := by omega
  clear hs ht d
  have hb := (bel0 w (.cells #[.bool o, .pointer q] 31)).alloc (by simp) (.cells #[.bool o2, .pointer q2] 31)
  go_enter Try.func46, Try.ntmps46
  go_wp2_with (first
    | (go_at_call 69; (refine Calls.mono (both_any s t _ _ _ ds dt (HS.out.below hb) (HT.out.below hb)) ?_); rintro e wn ⟨x, rfl, hx, hkk⟩; obtain ⟨ox, qx, rfl, _⟩ := hx.shape'; have hb := hb.trans (hkk.mono hb.size); have HX := Lib.hid hx; clear hx hkk)
    | (go_at_call 45; (refine Calls.mono (Measure_is _ HX.out hd) ?_); rintro e wn ⟨rfl, hkk⟩; have hb := hb.trans (hkk.mono hb.size); clear hkk))
  go_ret
  exact ⟨rfl, hb⟩
end Go.Proofs.Ytigkjmfkpmehlaa
