/- ID.Split. (Printed by wip/ids/splits.py.) -/
import Derived.Test.YtigkjmfkpmehlaaSplit
namespace Go.Proofs.Ytigkjmfkpmehlaa
open Go.RowKit

/-- What Split comes to. -/
def splitR (t : T) : T × T × Int := if max t.split.1.depth t.split.2.depth ≤ 16 then (t.split.1, t.split.2, 0) else (.z, .z, 3)
theorem T.isZ_depth {t : T} (h : t.isZ = true) : t.depth = 0 := by cases t <;> simp_all [T.isZ, T.depth]
theorem T.split_depth : ∀ t : T, t.split.1.depth ≤ t.depth + 1 ∧ t.split.2.depth ≤ t.depth + 1
  | .z => by simp [T.split, T.depth]
  | .o => by decide
  | .n l r => by
    have hl := T.split_depth l
    have hr := T.split_depth r
    simp only [T.split]
    split
    · have h1 := T.pair_depth l r.split.1
      have h2 := T.pair_depth l r.split.2
      simp only [T.depth]
      omega
    · split
      · have h1 := T.pair_depth l.split.1 r
        have h2 := T.pair_depth l.split.2 r
        simp only [T.depth]
        omega
      · have h1 := T.pair_depth l .z
        have h2 := T.pair_depth .z r
        simp only [T.depth] at *
        omega

set_option maxHeartbeats 1600000 in
theorem Split_any {t : T} {v : Value} (w : World) (h : IDV w t v) (hd : t.depth ≤ 100000) : Calls Try.prog 19 #[v] w fun e w' => ∃ v1 v2, e = .returned (.tuple #[v1, v2, .int .i64 (splitR t).2.2]) ∧ IDV w' (splitR t).1 v1 ∧ IDV w' (splitR t).2.1 v2 ∧ Below w.heap.size w w' := by
  have hd1 : t.split.1.depth ≤ 1000000 := by have := T.split_depth t; omega
  have hd2 : t.split.2.depth ≤ 1000000 := by have := T.split_depth t; omega
  obtain ⟨a, p, rfl, ho⟩ := h.shape'
  have HV := Lib.hid h
  clear h
  have b1 := ((Bx.new w a p).alloc (.cells #[.bool false, .pointer none] 31)).alloc (.cells #[.bool false, .pointer none] 31)
  have b2 := (Bx.new (w.alloc (.cells #[.bool a, .pointer p] 31)) false none).alloc (.cells #[.bool false, .pointer none] 31)
  have b3 := Bx.new ((w.alloc (.cells #[.bool a, .pointer p] 31)).alloc (.cells #[.bool false, .pointer none] 31)) false none
  have hb := ((bel0 w (.cells #[.bool a, .pointer p] 31)).alloc (by simp only [asz]; omega) (.cells #[.bool false, .pointer none] 31)).alloc (by simp only [asz]; omega) (.cells #[.bool false, .pointer none] 31)
  simp only [asz] at b2 b3
  go_enter Try.func19, Try.ntmps19
  go_wp2_with fail
  generalize ((w.alloc (.cells #[.bool a, .pointer p] 31)).alloc (.cells #[.bool false, .pointer none] 31)).alloc (.cells #[.bool false, .pointer none] 31) = w3 at *
  obtain ⟨B, hB⟩ : ∃ B, w.heap.size = B := ⟨_, rfl⟩
  rw [hB] at b1 b2 b3 ⊢
  obtain ⟨C, hC⟩ : ∃ C, B + 1 + 1 = C := ⟨_, rfl⟩
  rw [hC] at b3 ⊢
  obtain ⟨D, hD⟩ : ∃ D, B + 1 = D := ⟨_, rfl⟩
  rw [hD] at b2 ⊢
  have c10 := b1.c0
  have c11 := b1.c1
  have f10 := b1.f0
  have f11 := b1.f1
  have n1 := b1.ne
  have l1 := b1.lt
  have c20 := b2.c0
  have c21 := b2.c1
  have f20 := b2.f0
  have f21 := b2.f1
  have n2 := b2.ne
  have l2 := b2.lt
  have c30 := b3.c0
  have c31 := b3.c1
  have f30 := b3.f0
  have f31 := b3.f1
  have n3 := b3.ne
  have l3 := b3.lt
  have hDC : D ≠ C := by omega
  have hBD : B ≠ D := by omega
  have hBC : B ≠ C := by omega
  go_upto_region 2 with (go_at_call 55; refine Calls.mono (split_any _ _ _ (HV.out.below hb)) ?_; rintro e wn ⟨v1, v2, rfl, hv1, hv2, hk⟩; obtain ⟨oE, qE, rfl, hoE⟩ := hv1.shape'; obtain ⟨oF, qF, rfl, hoF⟩ := hv2.shape'; have HE := Lib.hid hv1; have HF := Lib.hid hv2; clear hv1 hv2; have hb := hb.trans (hk.mono hb.size); have b1 := b1.below hk; have b2 := b2.below hk; have b3 := b3.below hk; have l3 := b3.lt; (try have HV := Lib.hid (HV.out.below hk)); (try have HL := Lib.hid (HL.out.below hk)); (try have HR := Lib.hid (HR.out.below hk)); (try have HA := Lib.hid (HA.out.below hk)); (try have HB := Lib.hid (HB.out.below hk)); clear hk)
  have b6 := (Bx.new wn oE qE).alloc (.cells #[.bool oF, .pointer qF] 31)
  have b7 := Bx.new1 wn oF qF (.cells #[.bool oE, .pointer qE] 31)
  have b1 := (b1.alloc (.cells #[.bool oE, .pointer qE] 31)).alloc (.cells #[.bool oF, .pointer qF] 31)
  have b2 := (b2.alloc (.cells #[.bool oE, .pointer qE] 31)).alloc (.cells #[.bool oF, .pointer qF] 31)
  have b3 := (b3.alloc (.cells #[.bool oE, .pointer qE] 31)).alloc (.cells #[.bool oF, .pointer qF] 31)
  have hb := (hb.alloc hb.size (.cells #[.bool oE, .pointer qE] 31)).alloc (by simp only [asz]; have := hb.size; omega) (.cells #[.bool oF, .pointer qF] 31)
  have HE := Lib.hid ((HE.out.alloc (.cells #[.bool oE, .pointer qE] 31)).alloc (.cells #[.bool oF, .pointer qF] 31))
  have HF := Lib.hid ((HF.out.alloc (.cells #[.bool oE, .pointer qE] 31)).alloc (.cells #[.bool oF, .pointer qF] 31))
  generalize (wn.alloc (.cells #[.bool oE, .pointer qE] 31)).alloc (.cells #[.bool oF, .pointer qF] 31) = w4 at *
  obtain ⟨E, hE⟩ : ∃ E, wn.heap.size = E := ⟨_, rfl⟩
  rw [hE] at b6 b7 l3 ⊢
  obtain ⟨F, hF⟩ : ∃ F, E + 1 = F := ⟨_, rfl⟩
  rw [hF] at b7 ⊢
  have hb0 := hb
  have hb := bdrew hb
  have b10 := b1
  have b20 := b2
  have b30 := b3
  have b60 := b6
  have b70 := b7
  have b1 := b1.drew
  have b2 := b2.drew
  have b3 := b3.drew
  have b6 := b6.drew
  have b7 := b7.drew
  try have HE := Lib.hid HE.out.drew
  try have HF := Lib.hid HF.out.drew
  have c20 := b2.c0
  have c21 := b2.c1
  have f20 := b2.f0
  have f21 := b2.f1
  have c30 := b3.c0
  have c31 := b3.c1
  have f30 := b3.f0
  have f31 := b3.f1
  go_region_held3 (fun w' => w'.cell? ⟨E, 0, none⟩ = some (.bool oE) ∧ w'.cell? ⟨E, 1, none⟩ = some (.pointer qE) ∧ w'.cell? ⟨F, 0, none⟩ = some (.bool oF) ∧ w'.cell? ⟨F, 1, none⟩ = some (.pointer qF)) (with_reducible (refine (fun h0 h1 => ⟨Bx.c0 h0, Bx.c1 h0, Bx.c0 h1, Bx.c1 h1⟩ : Bx _ E oE qE → Bx _ F oF qF → _) ?_ ?_; all_goals repeat (first | exact b6 | exact b60 | exact b7 | exact b70 | refine Bx.drew ?_ | refine Bx.far ?_ (by first | assumption | exact Ne.symm (by assumption) | omega) _ _)))
    (first
      | (go_at_call_of 20 (Value.agg #[Value.bool oE, Value.pointer qE]); with_reducible refine Calls.mono (depth_any _ HE.out hd1) ?_; rintro e wn ⟨rfl, hk⟩; have hb := hb.trans (hk.mono hb.size); have b1 := b1.below hk; have b2 := b2.below hk; have b3 := b3.below hk; have b6 := b6.below hk; have b7 := b7.below hk; have l3 := b3.lt; (try have HV := Lib.hid (HV.out.below hk)); (try have HL := Lib.hid (HL.out.below hk)); (try have HR := Lib.hid (HR.out.below hk)); (try have HA := Lib.hid (HA.out.below hk)); (try have HB := Lib.hid (HB.out.below hk)); (try have HE := Lib.hid (HE.out.below hk)); (try have HF := Lib.hid (HF.out.below hk)); have c20 := b2.c0; have c21 := b2.c1; have f20 := b2.f0; have f21 := b2.f1; have c30 := b3.c0; have c31 := b3.c1; have f30 := b3.f0; have f31 := b3.f1; (try clear c60 c61 c70 c71); have c60 := b6.c0; have c61 := b6.c1; have c70 := b7.c0; have c71 := b7.c1; clear hk)
      | (go_at_call_of 20 (Value.agg #[Value.bool oF, Value.pointer qF]); with_reducible refine Calls.mono (depth_any _ HF.out hd2) ?_; rintro e wn ⟨rfl, hk⟩; have hb := hb.trans (hk.mono hb.size); have b1 := b1.below hk; have b2 := b2.below hk; have b3 := b3.below hk; have b6 := b6.below hk; have b7 := b7.below hk; have l3 := b3.lt; (try have HV := Lib.hid (HV.out.below hk)); (try have HL := Lib.hid (HL.out.below hk)); (try have HR := Lib.hid (HR.out.below hk)); (try have HA := Lib.hid (HA.out.below hk)); (try have HB := Lib.hid (HB.out.below hk)); (try have HE := Lib.hid (HE.out.below hk)); (try have HF := Lib.hid (HF.out.below hk)); have c20 := b2.c0; have c21 := b2.c1; have f20 := b2.f0; have f21 := b2.f1; have c30 := b3.c0; have c31 := b3.c1; have f30 := b3.f0; have f31 := b3.f1; (try clear c60 c61 c70 c71); have c60 := b6.c0; have c61 := b6.c1; have c70 := b7.c0; have c71 := b7.c1; clear hk))
  by_cases hm : max t.split.1.depth t.split.2.depth ≤ 16
  · have hX : decide ((16 : Int) < if t.split.1.depth < t.split.2.depth then (t.split.2.depth : Int) else t.split.1.depth) = false := by
      rw [decide_eq_false_iff_not]
      split <;> omega
    rw [hX]
    clear hX
    have es : splitR t = (t.split.1, t.split.2, 0) := by simp only [splitR, hm, if_true]
    have ES := Lib.hid es
    clear es hm
    go_upto_region 4 with (fail)
    have hb0 := hb
    have hb := bdrew hb
    have b10 := b1
    have b20 := b2
    have b30 := b3
    have b60 := b6
    have b70 := b7
    have HE0 := HE
    have HF0 := HF
    have b1 := b1.drew
    have b2 := b2.drew
    have b3 := b3.drew
    have b6 := b6.drew
    have b7 := b7.drew
    try have HE := Lib.hid HE.out.drew
    try have HF := Lib.hid HF.out.drew
    have c20 := b2.c0
    have c21 := b2.c1
    have f20 := b2.f0
    have f21 := b2.f1
    have c30 := b3.c0
    have c31 := b3.c1
    have f30 := b3.f0
    have f31 := b3.f1
    go_region_held3 (fun w' => w'.cell? ⟨E, 0, none⟩ = some (.bool oE) ∧ w'.cell? ⟨E, 1, none⟩ = some (.pointer qE) ∧ w'.cell? ⟨F, 0, none⟩ = some (.bool oF) ∧ w'.cell? ⟨F, 1, none⟩ = some (.pointer qF)) (with_reducible (refine (fun h0 h1 => ⟨Bx.c0 h0, Bx.c1 h0, Bx.c0 h1, Bx.c1 h1⟩ : Bx _ E oE qE → Bx _ F oF qF → _) ?_ ?_; all_goals repeat (first | exact b6 | exact b60 | exact b7 | exact b70 | refine Bx.drew ?_ | refine Bx.far ?_ (by first | assumption | exact Ne.symm (by assumption) | omega) _ _))) (fail)
    all_goals
      have fin := put2 hb0 b20 b30 (by omega) (by omega) hDC HE0.out HF0.out
      go_wp2_with fail
      all_goals
        rw [ES.out]
        exact bodyPost_ret (v := .tuple #[.agg #[.bool oE, .pointer qE], .agg #[.bool oF, .pointer qF], .int .i64 0]) (by simp [results, go_sem, *]) rfl ⟨_, _, rfl, fin.1.drew, fin.2.1.drew, (by rw [← hB]; exact bdrew fin.2.2)⟩
  · have hX : decide ((16 : Int) < if t.split.1.depth < t.split.2.depth then (t.split.2.depth : Int) else t.split.1.depth) = true := by
      rw [decide_eq_true_iff]
      split <;> omega
    rw [hX]
    clear hX
    have es : splitR t = (.z, .z, 3) := by simp only [splitR, hm, if_false]
    have ES := Lib.hid es
    clear es hm
    go_wp2_with (go_at_call 21; refine Calls.mono (zero_any _) ?_; rintro e wn ⟨v, rfl, rfl, hk⟩; have hb := hb.trans (hk.mono hb.size); have b1 := b1.below hk; have b2 := b2.below hk; have b3 := b3.below hk; have b6 := b6.below hk; have b7 := b7.below hk; have l3 := b3.lt; (try have HV := Lib.hid (HV.out.below hk)); (try have HL := Lib.hid (HL.out.below hk)); (try have HR := Lib.hid (HR.out.below hk)); (try have HA := Lib.hid (HA.out.below hk)); (try have HB := Lib.hid (HB.out.below hk)); (try have HE := Lib.hid (HE.out.below hk)); (try have HF := Lib.hid (HF.out.below hk)); have c20 := b2.c0; have c21 := b2.c1; have f20 := b2.f0; have f21 := b2.f1; have c30 := b3.c0; have c31 := b3.c1; have f30 := b3.f0; have f31 := b3.f1; clear hk)
    all_goals
      have fin := put2 hb b2 b3 (by omega) (by omega) hDC (IDV.zero _) (IDV.zero _)
      rw [ES.out]
      exact bodyPost_ret (v := .tuple #[.agg #[.bool false, .pointer none], .agg #[.bool false, .pointer none], .int .i64 3]) (by simp [results, go_sem, *]) rfl ⟨_, _, rfl, fin.1, fin.2.1, (by rw [← hB]; exact fin.2.2)⟩
end Go.Proofs.Ytigkjmfkpmehlaa
