/- kinfolkref01.Split. (Printed by wip/ids/rsplit.py.) -/
import Derived.Test.YtigkjmfkpmehlaaPairsWalk
namespace Go.Proofs.Ytigkjmfkpmehlaa
open Go.RowKit

theorem kind_z {t : T} (h : t.isZ = true) : t.kind = 0 := by cases t <;> simp_all [T.isZ, T.kind]
theorem kind_nz {t : T} (h : t.isZ = false) : ¬ t.kind = 0 := by cases t <;> simp_all [T.isZ, T.kind]

set_option maxRecDepth 100000 in
set_option maxHeartbeats 3200000 in
theorem rsplit_any : ∀ {t : T} (v : Value) (w : World), RV w t v → Calls Try.prog 37 #[v] w fun e w' => ∃ v1 v2, e = .returned (.tuple #[v1, v2]) ∧ RV w' t.split.1 v1 ∧ RV w' t.split.2 v2 ∧ Below w.heap.size w w'
  | .z, v, w, h => by
    obtain ⟨b, pl, pr, rfl, hn⟩ := h
    have c0 := hn.c0
    have hb := Below.refl w.heap.size w
    go_enter Try.func37, Try.ntmps37
    go_wp2_with (go_at_call 36; first
          | (have zz := HZ1.out; clear zz; refine Calls.mono (rzero_any _) ?_; rintro e wn ⟨v, rfl, hv, hkk⟩; have hb := hb.trans (hkk.mono hb.size); (try have hn := hn.below hkk); (try have hnl := hnl.below hkk); (try have hnr := hnr.below hkk); (try have HL := Lib.hid (HL.out.below hkk)); (try have HR := Lib.hid (HR.out.below hkk)); (try have HA := Lib.hid (HA.out.below hkk)); (try have HB := Lib.hid (HB.out.below hkk)); (try have HZ1 := Lib.hid (HZ1.out.below hkk)); (try have HO1 := Lib.hid (HO1.out.below hkk)); (try have HO2 := Lib.hid (HO2.out.below hkk)); (try have HP1 := Lib.hid (HP1.out.below hkk)); (try have HP2 := Lib.hid (HP2.out.below hkk)); have HZ2 := Lib.hid hv; clear hv hkk)
          | (refine Calls.mono (rzero_any _) ?_; rintro e wn ⟨v, rfl, hv, hkk⟩; have hb := hb.trans (hkk.mono hb.size); (try have hn := hn.below hkk); (try have hnl := hnl.below hkk); (try have hnr := hnr.below hkk); (try have HL := Lib.hid (HL.out.below hkk)); (try have HR := Lib.hid (HR.out.below hkk)); (try have HA := Lib.hid (HA.out.below hkk)); (try have HB := Lib.hid (HB.out.below hkk)); (try have HZ2 := Lib.hid (HZ2.out.below hkk)); (try have HO1 := Lib.hid (HO1.out.below hkk)); (try have HO2 := Lib.hid (HO2.out.below hkk)); (try have HP1 := Lib.hid (HP1.out.below hkk)); (try have HP2 := Lib.hid (HP2.out.below hkk)); have HZ1 := Lib.hid hv; clear hv hkk))
    all_goals
      obtain ⟨g1, _, _, rfl, _⟩ := HZ1.out.shape
      obtain ⟨g2, _, _, rfl, _⟩ := HZ2.out.shape
      exact bodyPost_ret (v := .tuple #[.pointer (some ⟨g1, 0, none⟩), .pointer (some ⟨g2, 0, none⟩)]) (by simp [results, go_sem, *]) rfl ⟨_, _, rfl, HZ1.out, HZ2.out, hb⟩
  | .o, v, w, h => by
    obtain ⟨b, pl, pr, rfl, hn⟩ := h
    have c0 := hn.c0
    have hb := Below.refl w.heap.size w
    go_enter Try.func37, Try.ntmps37
    go_wp2_with (first
        | (go_at_call 36; first
          | (have zz := HP1.out; clear zz; refine Calls.mono (rzero_any _) ?_; rintro e wn ⟨v, rfl, hv, hkk⟩; have hb := hb.trans (hkk.mono hb.size); (try have hn := hn.below hkk); (try have hnl := hnl.below hkk); (try have hnr := hnr.below hkk); (try have HL := Lib.hid (HL.out.below hkk)); (try have HR := Lib.hid (HR.out.below hkk)); (try have HA := Lib.hid (HA.out.below hkk)); (try have HB := Lib.hid (HB.out.below hkk)); (try have HZ1 := Lib.hid (HZ1.out.below hkk)); (try have HO1 := Lib.hid (HO1.out.below hkk)); (try have HO2 := Lib.hid (HO2.out.below hkk)); (try have HP1 := Lib.hid (HP1.out.below hkk)); (try have HP2 := Lib.hid (HP2.out.below hkk)); have HZ2 := Lib.hid hv; clear hv hkk)
          | (refine Calls.mono (rzero_any _) ?_; rintro e wn ⟨v, rfl, hv, hkk⟩; have hb := hb.trans (hkk.mono hb.size); (try have hn := hn.below hkk); (try have hnl := hnl.below hkk); (try have hnr := hnr.below hkk); (try have HL := Lib.hid (HL.out.below hkk)); (try have HR := Lib.hid (HR.out.below hkk)); (try have HA := Lib.hid (HA.out.below hkk)); (try have HB := Lib.hid (HB.out.below hkk)); (try have HZ2 := Lib.hid (HZ2.out.below hkk)); (try have HO1 := Lib.hid (HO1.out.below hkk)); (try have HO2 := Lib.hid (HO2.out.below hkk)); (try have HP1 := Lib.hid (HP1.out.below hkk)); (try have HP2 := Lib.hid (HP2.out.below hkk)); have HZ1 := Lib.hid hv; clear hv hkk))
        | (go_at_call 64; first
          | (have zz := HP1.out; clear zz; refine Calls.mono (rone_any _) ?_; rintro e wn ⟨v, rfl, hv, hkk⟩; have hb := hb.trans (hkk.mono hb.size); (try have hn := hn.below hkk); (try have hnl := hnl.below hkk); (try have hnr := hnr.below hkk); (try have HL := Lib.hid (HL.out.below hkk)); (try have HR := Lib.hid (HR.out.below hkk)); (try have HA := Lib.hid (HA.out.below hkk)); (try have HB := Lib.hid (HB.out.below hkk)); (try have HZ1 := Lib.hid (HZ1.out.below hkk)); (try have HZ2 := Lib.hid (HZ2.out.below hkk)); (try have HO1 := Lib.hid (HO1.out.below hkk)); (try have HP1 := Lib.hid (HP1.out.below hkk)); (try have HP2 := Lib.hid (HP2.out.below hkk)); have HO2 := Lib.hid hv; clear hv hkk)
          | (refine Calls.mono (rone_any _) ?_; rintro e wn ⟨v, rfl, hv, hkk⟩; have hb := hb.trans (hkk.mono hb.size); (try have hn := hn.below hkk); (try have hnl := hnl.below hkk); (try have hnr := hnr.below hkk); (try have HL := Lib.hid (HL.out.below hkk)); (try have HR := Lib.hid (HR.out.below hkk)); (try have HA := Lib.hid (HA.out.below hkk)); (try have HB := Lib.hid (HB.out.below hkk)); (try have HZ1 := Lib.hid (HZ1.out.below hkk)); (try have HZ2 := Lib.hid (HZ2.out.below hkk)); (try have HO2 := Lib.hid (HO2.out.below hkk)); (try have HP1 := Lib.hid (HP1.out.below hkk)); (try have HP2 := Lib.hid (HP2.out.below hkk)); have HO1 := Lib.hid hv; clear hv hkk))
        | (go_at_call 63; first
          | (with_reducible refine Calls.mono (rpair_any _ HZ2.out HO2.out) ?_; rintro e wn ⟨v, rfl, hv, hkk⟩; have hb := hb.trans (hkk.mono hb.size); (try have hn := hn.below hkk); (try have hnl := hnl.below hkk); (try have hnr := hnr.below hkk); (try have HL := Lib.hid (HL.out.below hkk)); (try have HR := Lib.hid (HR.out.below hkk)); (try have HA := Lib.hid (HA.out.below hkk)); (try have HB := Lib.hid (HB.out.below hkk)); (try have HZ1 := Lib.hid (HZ1.out.below hkk)); (try have HZ2 := Lib.hid (HZ2.out.below hkk)); (try have HO1 := Lib.hid (HO1.out.below hkk)); (try have HO2 := Lib.hid (HO2.out.below hkk)); (try have HP1 := Lib.hid (HP1.out.below hkk)); have HP2 := Lib.hid hv; clear hv hkk)
          | (with_reducible refine Calls.mono (rpair_any _ HO1.out HZ1.out) ?_; rintro e wn ⟨v, rfl, hv, hkk⟩; have hb := hb.trans (hkk.mono hb.size); (try have hn := hn.below hkk); (try have hnl := hnl.below hkk); (try have hnr := hnr.below hkk); (try have HL := Lib.hid (HL.out.below hkk)); (try have HR := Lib.hid (HR.out.below hkk)); (try have HA := Lib.hid (HA.out.below hkk)); (try have HB := Lib.hid (HB.out.below hkk)); (try have HZ1 := Lib.hid (HZ1.out.below hkk)); (try have HZ2 := Lib.hid (HZ2.out.below hkk)); (try have HO1 := Lib.hid (HO1.out.below hkk)); (try have HO2 := Lib.hid (HO2.out.below hkk)); (try have HP2 := Lib.hid (HP2.out.below hkk)); have HP1 := Lib.hid hv; clear hv hkk)))
    all_goals
      obtain ⟨g1, _, _, rfl, _⟩ := HP1.out.shape
      obtain ⟨g2, _, _, rfl, _⟩ := HP2.out.shape
      exact bodyPost_ret (v := .tuple #[.pointer (some ⟨g1, 0, none⟩), .pointer (some ⟨g2, 0, none⟩)]) (by simp [results, go_sem, *]) rfl ⟨_, _, rfl, HP1.out, HP2.out, hb⟩
  | .n l r, v, w, h => by
    have il := fun (vx : Value) (wx : World) (hx : RV wx l vx) => rsplit_any (t := l) vx wx hx
    have ir := fun (vx : Value) (wx : World) (hx : RV wx r vx) => rsplit_any (t := r) vx wx hx
    have IL := Lib.hid il
    have IR := Lib.hid ir
    clear il ir
    obtain ⟨b, pl, pr, rfl, hn, hl, hr⟩ := h
    have HL := Lib.hid hl
    have HR := Lib.hid hr
    obtain ⟨bl, ql, qr, hpl, hnl⟩ := hl.shape
    obtain ⟨br, ul, ur, hpr, hnr⟩ := hr.shape
    simp only [Value.pointer.injEq] at hpl hpr
    subst hpl
    subst hpr
    clear hl hr
    cases hzl : l.isZ with
    | true =>
      have hk := kind_z hzl
      rw [hk] at hnl
      clear hk
      have c0 := hn.c0
      have c1 := hn.c1
      have c2 := hn.c2
      have d0 := hnl.c0
      have r0 := hnr.c0
      have hb := Below.refl w.heap.size w
      go_enter Try.func37, Try.ntmps37
      go_wp2_with (first
          | (go_at_call 37; refine Calls.mono (IR.out _ _ HR.out) ?_; rintro e wn ⟨v, v2, rfl, hv, hv2, hkk⟩; have hb := hb.trans (hkk.mono hb.size); (try have hn := hn.below hkk); (try have hnl := hnl.below hkk); (try have hnr := hnr.below hkk); (try have HL := Lib.hid (HL.out.below hkk)); (try have HR := Lib.hid (HR.out.below hkk)); (try have HZ1 := Lib.hid (HZ1.out.below hkk)); (try have HZ2 := Lib.hid (HZ2.out.below hkk)); (try have HO1 := Lib.hid (HO1.out.below hkk)); (try have HO2 := Lib.hid (HO2.out.below hkk)); (try have HP1 := Lib.hid (HP1.out.below hkk)); (try have HP2 := Lib.hid (HP2.out.below hkk)); have HA := Lib.hid hv; have HB := Lib.hid hv2; clear hv hv2 hkk)
          | (go_at_call 36; first
            | (have zz := HP1.out; clear zz; refine Calls.mono (rzero_any _) ?_; rintro e wn ⟨v, rfl, hv, hkk⟩; have hb := hb.trans (hkk.mono hb.size); (try have hn := hn.below hkk); (try have hnl := hnl.below hkk); (try have hnr := hnr.below hkk); (try have HL := Lib.hid (HL.out.below hkk)); (try have HR := Lib.hid (HR.out.below hkk)); (try have HA := Lib.hid (HA.out.below hkk)); (try have HB := Lib.hid (HB.out.below hkk)); (try have HZ1 := Lib.hid (HZ1.out.below hkk)); (try have HO1 := Lib.hid (HO1.out.below hkk)); (try have HO2 := Lib.hid (HO2.out.below hkk)); (try have HP1 := Lib.hid (HP1.out.below hkk)); (try have HP2 := Lib.hid (HP2.out.below hkk)); have HZ2 := Lib.hid hv; clear hv hkk)
            | (refine Calls.mono (rzero_any _) ?_; rintro e wn ⟨v, rfl, hv, hkk⟩; have hb := hb.trans (hkk.mono hb.size); (try have hn := hn.below hkk); (try have hnl := hnl.below hkk); (try have hnr := hnr.below hkk); (try have HL := Lib.hid (HL.out.below hkk)); (try have HR := Lib.hid (HR.out.below hkk)); (try have HA := Lib.hid (HA.out.below hkk)); (try have HB := Lib.hid (HB.out.below hkk)); (try have HZ2 := Lib.hid (HZ2.out.below hkk)); (try have HO1 := Lib.hid (HO1.out.below hkk)); (try have HO2 := Lib.hid (HO2.out.below hkk)); (try have HP1 := Lib.hid (HP1.out.below hkk)); (try have HP2 := Lib.hid (HP2.out.below hkk)); have HZ1 := Lib.hid hv; clear hv hkk))
          | (go_at_call 63; first
            | (with_reducible refine Calls.mono (rpair_any _ HZ2.out HB.out) ?_; rintro e wn ⟨v, rfl, hv, hkk⟩; have hb := hb.trans (hkk.mono hb.size); (try have hn := hn.below hkk); (try have hnl := hnl.below hkk); (try have hnr := hnr.below hkk); (try have HL := Lib.hid (HL.out.below hkk)); (try have HR := Lib.hid (HR.out.below hkk)); (try have HA := Lib.hid (HA.out.below hkk)); (try have HB := Lib.hid (HB.out.below hkk)); (try have HZ1 := Lib.hid (HZ1.out.below hkk)); (try have HZ2 := Lib.hid (HZ2.out.below hkk)); (try have HO1 := Lib.hid (HO1.out.below hkk)); (try have HO2 := Lib.hid (HO2.out.below hkk)); (try have HP1 := Lib.hid (HP1.out.below hkk)); have HP2 := Lib.hid hv; clear hv hkk)
            | (with_reducible refine Calls.mono (rpair_any _ HZ1.out HA.out) ?_; rintro e wn ⟨v, rfl, hv, hkk⟩; have hb := hb.trans (hkk.mono hb.size); (try have hn := hn.below hkk); (try have hnl := hnl.below hkk); (try have hnr := hnr.below hkk); (try have HL := Lib.hid (HL.out.below hkk)); (try have HR := Lib.hid (HR.out.below hkk)); (try have HA := Lib.hid (HA.out.below hkk)); (try have HB := Lib.hid (HB.out.below hkk)); (try have HZ1 := Lib.hid (HZ1.out.below hkk)); (try have HZ2 := Lib.hid (HZ2.out.below hkk)); (try have HO1 := Lib.hid (HO1.out.below hkk)); (try have HO2 := Lib.hid (HO2.out.below hkk)); (try have HP2 := Lib.hid (HP2.out.below hkk)); have HP1 := Lib.hid hv; clear hv hkk)))
      have e1 : (T.split (.n l r)).1 = T.pair .z r.split.1 := by rw [isZ_iff.1 hzl]; simp [T.split, T.isZ]
      have e2 : (T.split (.n l r)).2 = T.pair .z r.split.2 := by rw [isZ_iff.1 hzl]; simp [T.split, T.isZ]
      all_goals
        obtain ⟨g1, _, _, rfl, _⟩ := HP1.out.shape
        obtain ⟨g2, _, _, rfl, _⟩ := HP2.out.shape
        exact bodyPost_ret (v := .tuple #[.pointer (some ⟨g1, 0, none⟩), .pointer (some ⟨g2, 0, none⟩)]) (by simp [results, go_sem, *]) rfl ⟨_, _, rfl, (e1 ▸ HP1.out), (e2 ▸ HP2.out), hb⟩
    | false =>
      have hk := kind_nz hzl
      cases hzr : r.isZ with
      | true =>
        have hk2 := kind_z hzr
        rw [hk2] at hnr
        clear hk2
        have c0 := hn.c0
        have c1 := hn.c1
        have c2 := hn.c2
        have d0 := hnl.c0
        have r0 := hnr.c0
        have hb := Below.refl w.heap.size w
        go_enter Try.func37, Try.ntmps37
        go_wp2_with (first
            | (go_at_call 37; refine Calls.mono (IL.out _ _ HL.out) ?_; rintro e wn ⟨v, v2, rfl, hv, hv2, hkk⟩; have hb := hb.trans (hkk.mono hb.size); (try have hn := hn.below hkk); (try have hnl := hnl.below hkk); (try have hnr := hnr.below hkk); (try have HL := Lib.hid (HL.out.below hkk)); (try have HR := Lib.hid (HR.out.below hkk)); (try have HZ1 := Lib.hid (HZ1.out.below hkk)); (try have HZ2 := Lib.hid (HZ2.out.below hkk)); (try have HO1 := Lib.hid (HO1.out.below hkk)); (try have HO2 := Lib.hid (HO2.out.below hkk)); (try have HP1 := Lib.hid (HP1.out.below hkk)); (try have HP2 := Lib.hid (HP2.out.below hkk)); have HA := Lib.hid hv; have HB := Lib.hid hv2; clear hv hv2 hkk)
            | (go_at_call 36; first
              | (have zz := HP1.out; clear zz; refine Calls.mono (rzero_any _) ?_; rintro e wn ⟨v, rfl, hv, hkk⟩; have hb := hb.trans (hkk.mono hb.size); (try have hn := hn.below hkk); (try have hnl := hnl.below hkk); (try have hnr := hnr.below hkk); (try have HL := Lib.hid (HL.out.below hkk)); (try have HR := Lib.hid (HR.out.below hkk)); (try have HA := Lib.hid (HA.out.below hkk)); (try have HB := Lib.hid (HB.out.below hkk)); (try have HZ1 := Lib.hid (HZ1.out.below hkk)); (try have HO1 := Lib.hid (HO1.out.below hkk)); (try have HO2 := Lib.hid (HO2.out.below hkk)); (try have HP1 := Lib.hid (HP1.out.below hkk)); (try have HP2 := Lib.hid (HP2.out.below hkk)); have HZ2 := Lib.hid hv; clear hv hkk)
              | (refine Calls.mono (rzero_any _) ?_; rintro e wn ⟨v, rfl, hv, hkk⟩; have hb := hb.trans (hkk.mono hb.size); (try have hn := hn.below hkk); (try have hnl := hnl.below hkk); (try have hnr := hnr.below hkk); (try have HL := Lib.hid (HL.out.below hkk)); (try have HR := Lib.hid (HR.out.below hkk)); (try have HA := Lib.hid (HA.out.below hkk)); (try have HB := Lib.hid (HB.out.below hkk)); (try have HZ2 := Lib.hid (HZ2.out.below hkk)); (try have HO1 := Lib.hid (HO1.out.below hkk)); (try have HO2 := Lib.hid (HO2.out.below hkk)); (try have HP1 := Lib.hid (HP1.out.below hkk)); (try have HP2 := Lib.hid (HP2.out.below hkk)); have HZ1 := Lib.hid hv; clear hv hkk))
            | (go_at_call 63; first
              | (with_reducible refine Calls.mono (rpair_any _ HB.out HZ2.out) ?_; rintro e wn ⟨v, rfl, hv, hkk⟩; have hb := hb.trans (hkk.mono hb.size); (try have hn := hn.below hkk); (try have hnl := hnl.below hkk); (try have hnr := hnr.below hkk); (try have HL := Lib.hid (HL.out.below hkk)); (try have HR := Lib.hid (HR.out.below hkk)); (try have HA := Lib.hid (HA.out.below hkk)); (try have HB := Lib.hid (HB.out.below hkk)); (try have HZ1 := Lib.hid (HZ1.out.below hkk)); (try have HZ2 := Lib.hid (HZ2.out.below hkk)); (try have HO1 := Lib.hid (HO1.out.below hkk)); (try have HO2 := Lib.hid (HO2.out.below hkk)); (try have HP1 := Lib.hid (HP1.out.below hkk)); have HP2 := Lib.hid hv; clear hv hkk)
              | (with_reducible refine Calls.mono (rpair_any _ HA.out HZ1.out) ?_; rintro e wn ⟨v, rfl, hv, hkk⟩; have hb := hb.trans (hkk.mono hb.size); (try have hn := hn.below hkk); (try have hnl := hnl.below hkk); (try have hnr := hnr.below hkk); (try have HL := Lib.hid (HL.out.below hkk)); (try have HR := Lib.hid (HR.out.below hkk)); (try have HA := Lib.hid (HA.out.below hkk)); (try have HB := Lib.hid (HB.out.below hkk)); (try have HZ1 := Lib.hid (HZ1.out.below hkk)); (try have HZ2 := Lib.hid (HZ2.out.below hkk)); (try have HO1 := Lib.hid (HO1.out.below hkk)); (try have HO2 := Lib.hid (HO2.out.below hkk)); (try have HP2 := Lib.hid (HP2.out.below hkk)); have HP1 := Lib.hid hv; clear hv hkk)))
        have e1 : (T.split (.n l r)).1 = T.pair l.split.1 .z := by simp only [T.split]; rw [if_neg (by rw [hzl]; exact Bool.false_ne_true), if_pos hzr, isZ_iff.1 hzr]
        have e2 : (T.split (.n l r)).2 = T.pair l.split.2 .z := by simp only [T.split]; rw [if_neg (by rw [hzl]; exact Bool.false_ne_true), if_pos hzr, isZ_iff.1 hzr]
        all_goals
          obtain ⟨g1, _, _, rfl, _⟩ := HP1.out.shape
          obtain ⟨g2, _, _, rfl, _⟩ := HP2.out.shape
          exact bodyPost_ret (v := .tuple #[.pointer (some ⟨g1, 0, none⟩), .pointer (some ⟨g2, 0, none⟩)]) (by simp [results, go_sem, *]) rfl ⟨_, _, rfl, (e1 ▸ HP1.out), (e2 ▸ HP2.out), hb⟩
      | false =>
        have hk2 := kind_nz hzr
        have c0 := hn.c0
        have c1 := hn.c1
        have c2 := hn.c2
        have d0 := hnl.c0
        have r0 := hnr.c0
        have hb := Below.refl w.heap.size w
        go_enter Try.func37, Try.ntmps37
        go_upto_region 11 with (fail)
        have hb := bdrew hb
        have hn := hn.drew
        have HL := Lib.hid HL.out.drew
        have HR := Lib.hid HR.out.drew
        go_region_held3 (fun w' => w'.cell? ⟨b, 1, none⟩ = some (.pointer (some ⟨bl, 0, none⟩)) ∧ w'.cell? ⟨b, 2, none⟩ = some (.pointer (some ⟨br, 0, none⟩))) (exact ⟨hn.c1, hn.c2⟩)
            (first
            | (go_at_call 36; first
              | (have zz := HP1.out; clear zz; refine Calls.mono (rzero_any _) ?_; rintro e wn ⟨v, rfl, hv, hkk⟩; have hb := hb.trans (hkk.mono hb.size); (try have hn := hn.below hkk); (try have hnl := hnl.below hkk); (try have hnr := hnr.below hkk); (try have HL := Lib.hid (HL.out.below hkk)); (try have HR := Lib.hid (HR.out.below hkk)); (try have HA := Lib.hid (HA.out.below hkk)); (try have HB := Lib.hid (HB.out.below hkk)); (try have HZ1 := Lib.hid (HZ1.out.below hkk)); (try have HO1 := Lib.hid (HO1.out.below hkk)); (try have HO2 := Lib.hid (HO2.out.below hkk)); (try have HP1 := Lib.hid (HP1.out.below hkk)); (try have HP2 := Lib.hid (HP2.out.below hkk)); have HZ2 := Lib.hid hv; clear hv hkk)
              | (refine Calls.mono (rzero_any _) ?_; rintro e wn ⟨v, rfl, hv, hkk⟩; have hb := hb.trans (hkk.mono hb.size); (try have hn := hn.below hkk); (try have hnl := hnl.below hkk); (try have hnr := hnr.below hkk); (try have HL := Lib.hid (HL.out.below hkk)); (try have HR := Lib.hid (HR.out.below hkk)); (try have HA := Lib.hid (HA.out.below hkk)); (try have HB := Lib.hid (HB.out.below hkk)); (try have HZ2 := Lib.hid (HZ2.out.below hkk)); (try have HO1 := Lib.hid (HO1.out.below hkk)); (try have HO2 := Lib.hid (HO2.out.below hkk)); (try have HP1 := Lib.hid (HP1.out.below hkk)); (try have HP2 := Lib.hid (HP2.out.below hkk)); have HZ1 := Lib.hid hv; clear hv hkk))
            | (go_at_call 63; first
              | (with_reducible refine Calls.mono (rpair_any _ HZ2.out HR.out) ?_; rintro e wn ⟨v, rfl, hv, hkk⟩; have hb := hb.trans (hkk.mono hb.size); (try have hn := hn.below hkk); (try have hnl := hnl.below hkk); (try have hnr := hnr.below hkk); (try have HL := Lib.hid (HL.out.below hkk)); (try have HR := Lib.hid (HR.out.below hkk)); (try have HA := Lib.hid (HA.out.below hkk)); (try have HB := Lib.hid (HB.out.below hkk)); (try have HZ1 := Lib.hid (HZ1.out.below hkk)); (try have HZ2 := Lib.hid (HZ2.out.below hkk)); (try have HO1 := Lib.hid (HO1.out.below hkk)); (try have HO2 := Lib.hid (HO2.out.below hkk)); (try have HP1 := Lib.hid (HP1.out.below hkk)); have HP2 := Lib.hid hv; clear hv hkk)
              | (with_reducible refine Calls.mono (rpair_any _ HL.out HZ1.out) ?_; rintro e wn ⟨v, rfl, hv, hkk⟩; have hb := hb.trans (hkk.mono hb.size); (try have hn := hn.below hkk); (try have hnl := hnl.below hkk); (try have hnr := hnr.below hkk); (try have HL := Lib.hid (HL.out.below hkk)); (try have HR := Lib.hid (HR.out.below hkk)); (try have HA := Lib.hid (HA.out.below hkk)); (try have HB := Lib.hid (HB.out.below hkk)); (try have HZ1 := Lib.hid (HZ1.out.below hkk)); (try have HZ2 := Lib.hid (HZ2.out.below hkk)); (try have HO1 := Lib.hid (HO1.out.below hkk)); (try have HO2 := Lib.hid (HO2.out.below hkk)); (try have HP2 := Lib.hid (HP2.out.below hkk)); have HP1 := Lib.hid hv; clear hv hkk)))
        go_wp2_with fail
        have e1 : (T.split (.n l r)).1 = T.pair l .z := by simp [T.split, hzl, hzr]
        have e2 : (T.split (.n l r)).2 = T.pair .z r := by simp [T.split, hzl, hzr]
        all_goals
          obtain ⟨g1, _, _, rfl, _⟩ := HP1.out.shape
          obtain ⟨g2, _, _, rfl, _⟩ := HP2.out.shape
          exact bodyPost_ret (v := .tuple #[.pointer (some ⟨g1, 0, none⟩), .pointer (some ⟨g2, 0, none⟩)]) (by simp [results, go_sem, *]) rfl ⟨_, _, rfl, (e1 ▸ HP1.out), (e2 ▸ HP2.out), hb⟩
end Go.Proofs.Ytigkjmfkpmehlaa
