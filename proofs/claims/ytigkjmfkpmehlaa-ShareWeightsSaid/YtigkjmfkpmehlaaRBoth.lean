/- kinfolkref03.Both. (Printed by wip/ids/rboth.py.) -/
import Derived.Test.YtigkjmfkpmehlaaBoth
import Derived.Test.YtigkjmfkpmehlaaRef
namespace Go.Proofs.Ytigkjmfkpmehlaa
open Go.RowKit

set_option maxRecDepth 100000 in
theorem rboth_zz {u v : Value} (w : World) (hs : RV w (.z) u) (ht : RV w (.z) v) : Calls Try.prog 44 #[u, v] w fun e w' => ∃ p, e = .returned p ∧ RV w' (.z) p ∧ Below w.heap.size w w' := by
  have HS := Lib.hid hs
  have HT := Lib.hid ht
  obtain ⟨b1, pl1, pr1, rfl, hn1⟩ := hs
  obtain ⟨b2, pl2, pr2, rfl, hn2⟩ := ht
  have c0 := hn1.c0
  have d0 := hn2.c0
  have hb := Below.refl w.heap.size w
  go_enter Try.func44, Try.ntmps44
  go_wp2_with (go_at_call 36; refine Calls.mono (rzero_any _) ?_; rintro e wn ⟨v, rfl, hv, hkk⟩; have hb := hb.trans (hkk.mono hb.size); obtain ⟨g1, _, _, rfl, _⟩ := RV.shape hv; have HV := Lib.hid hv; clear hv hkk)
  go_ret
  exact ⟨_, rfl, HV.out, hb⟩
set_option maxRecDepth 100000 in
theorem rboth_zo {u v : Value} (w : World) (hs : RV w (.z) u) (ht : RV w (.o) v) : Calls Try.prog 44 #[u, v] w fun e w' => ∃ p, e = .returned p ∧ RV w' (.z) p ∧ Below w.heap.size w w' := by
  have HS := Lib.hid hs
  have HT := Lib.hid ht
  obtain ⟨b1, pl1, pr1, rfl, hn1⟩ := hs
  obtain ⟨b2, pl2, pr2, rfl, hn2⟩ := ht
  have c0 := hn1.c0
  have d0 := hn2.c0
  have hb := Below.refl w.heap.size w
  go_enter Try.func44, Try.ntmps44
  go_wp2_with (go_at_call 36; refine Calls.mono (rzero_any _) ?_; rintro e wn ⟨v, rfl, hv, hkk⟩; have hb := hb.trans (hkk.mono hb.size); obtain ⟨g1, _, _, rfl, _⟩ := RV.shape hv; have HV := Lib.hid hv; clear hv hkk)
  go_ret
  exact ⟨_, rfl, HV.out, hb⟩
set_option maxRecDepth 100000 in
theorem rboth_zn {l2 r2 : T} {u v : Value} (w : World) (hs : RV w (.z) u) (ht : RV w (.n l2 r2) v) : Calls Try.prog 44 #[u, v] w fun e w' => ∃ p, e = .returned p ∧ RV w' (.z) p ∧ Below w.heap.size w w' := by
  have HS := Lib.hid hs
  have HT := Lib.hid ht
  obtain ⟨b1, pl1, pr1, rfl, hn1⟩ := hs
  obtain ⟨b2, pl2, pr2, rfl, hn2, _, _⟩ := ht
  have c0 := hn1.c0
  have d0 := hn2.c0
  have hb := Below.refl w.heap.size w
  go_enter Try.func44, Try.ntmps44
  go_wp2_with (go_at_call 36; refine Calls.mono (rzero_any _) ?_; rintro e wn ⟨v, rfl, hv, hkk⟩; have hb := hb.trans (hkk.mono hb.size); obtain ⟨g1, _, _, rfl, _⟩ := RV.shape hv; have HV := Lib.hid hv; clear hv hkk)
  go_ret
  exact ⟨_, rfl, HV.out, hb⟩
set_option maxRecDepth 100000 in
theorem rboth_oz {u v : Value} (w : World) (hs : RV w (.o) u) (ht : RV w (.z) v) : Calls Try.prog 44 #[u, v] w fun e w' => ∃ p, e = .returned p ∧ RV w' (.z) p ∧ Below w.heap.size w w' := by
  have HS := Lib.hid hs
  have HT := Lib.hid ht
  obtain ⟨b1, pl1, pr1, rfl, hn1⟩ := hs
  obtain ⟨b2, pl2, pr2, rfl, hn2⟩ := ht
  have c0 := hn1.c0
  have d0 := hn2.c0
  have hb := Below.refl w.heap.size w
  go_enter Try.func44, Try.ntmps44
  go_wp2_with (go_at_call 36; refine Calls.mono (rzero_any _) ?_; rintro e wn ⟨v, rfl, hv, hkk⟩; have hb := hb.trans (hkk.mono hb.size); obtain ⟨g1, _, _, rfl, _⟩ := RV.shape hv; have HV := Lib.hid hv; clear hv hkk)
  go_ret
  exact ⟨_, rfl, HV.out, hb⟩
set_option maxRecDepth 100000 in
theorem rboth_oo {u v : Value} (w : World) (hs : RV w (.o) u) (ht : RV w (.o) v) : Calls Try.prog 44 #[u, v] w fun e w' => ∃ p, e = .returned p ∧ RV w' (.o) p ∧ Below w.heap.size w w' := by
  have HS := Lib.hid hs
  have HT := Lib.hid ht
  obtain ⟨b1, pl1, pr1, rfl, hn1⟩ := hs
  obtain ⟨b2, pl2, pr2, rfl, hn2⟩ := ht
  have c0 := hn1.c0
  have d0 := hn2.c0
  have hb := Below.refl w.heap.size w
  go_enter Try.func44, Try.ntmps44
  go_wp2_with fail
  go_ret
  exact ⟨_, rfl, HT.out, hb⟩
set_option maxRecDepth 100000 in
theorem rboth_on {l2 r2 : T} {u v : Value} (w : World) (hs : RV w (.o) u) (ht : RV w (.n l2 r2) v) : Calls Try.prog 44 #[u, v] w fun e w' => ∃ p, e = .returned p ∧ RV w' (.n l2 r2) p ∧ Below w.heap.size w w' := by
  have HS := Lib.hid hs
  have HT := Lib.hid ht
  obtain ⟨b1, pl1, pr1, rfl, hn1⟩ := hs
  obtain ⟨b2, pl2, pr2, rfl, hn2, _, _⟩ := ht
  have c0 := hn1.c0
  have d0 := hn2.c0
  have hb := Below.refl w.heap.size w
  go_enter Try.func44, Try.ntmps44
  go_wp2_with fail
  go_ret
  exact ⟨_, rfl, HT.out, hb⟩
set_option maxRecDepth 100000 in
theorem rboth_nz {l1 r1 : T} {u v : Value} (w : World) (hs : RV w (.n l1 r1) u) (ht : RV w (.z) v) : Calls Try.prog 44 #[u, v] w fun e w' => ∃ p, e = .returned p ∧ RV w' (.z) p ∧ Below w.heap.size w w' := by
  have HS := Lib.hid hs
  have HT := Lib.hid ht
  obtain ⟨b1, pl1, pr1, rfl, hn1, _, _⟩ := hs
  obtain ⟨b2, pl2, pr2, rfl, hn2⟩ := ht
  have c0 := hn1.c0
  have d0 := hn2.c0
  have hb := Below.refl w.heap.size w
  go_enter Try.func44, Try.ntmps44
  go_wp2_with (go_at_call 36; refine Calls.mono (rzero_any _) ?_; rintro e wn ⟨v, rfl, hv, hkk⟩; have hb := hb.trans (hkk.mono hb.size); obtain ⟨g1, _, _, rfl, _⟩ := RV.shape hv; have HV := Lib.hid hv; clear hv hkk)
  go_ret
  exact ⟨_, rfl, HV.out, hb⟩
set_option maxRecDepth 100000 in
theorem rboth_no {l1 r1 : T} {u v : Value} (w : World) (hs : RV w (.n l1 r1) u) (ht : RV w (.o) v) : Calls Try.prog 44 #[u, v] w fun e w' => ∃ p, e = .returned p ∧ RV w' (.n l1 r1) p ∧ Below w.heap.size w w' := by
  have HS := Lib.hid hs
  have HT := Lib.hid ht
  obtain ⟨b1, pl1, pr1, rfl, hn1, _, _⟩ := hs
  obtain ⟨b2, pl2, pr2, rfl, hn2⟩ := ht
  have c0 := hn1.c0
  have d0 := hn2.c0
  have hb := Below.refl w.heap.size w
  go_enter Try.func44, Try.ntmps44
  go_wp2_with fail
  go_ret
  exact ⟨_, rfl, HS.out, hb⟩
set_option maxRecDepth 100000 in
set_option maxHeartbeats 1600000 in
theorem rboth_any : ∀ {s t : T} (u v : Value) (w : World), RV w s u → RV w t v → Calls Try.prog 44 #[u, v] w fun e w' => ∃ p, e = .returned p ∧ RV w' (s.both t) p ∧ Below w.heap.size w w'
  | .z, .z, _, _, w, hs, ht => rboth_zz w hs ht
  | .z, .o, _, _, w, hs, ht => rboth_zo w hs ht
  | .z, .n _ _, _, _, w, hs, ht => rboth_zn w hs ht
  | .o, .z, _, _, w, hs, ht => rboth_oz w hs ht
  | .o, .o, _, _, w, hs, ht => rboth_oo w hs ht
  | .o, .n _ _, _, _, w, hs, ht => rboth_on w hs ht
  | .n _ _, .z, _, _, w, hs, ht => rboth_nz w hs ht
  | .n _ _, .o, _, _, w, hs, ht => rboth_no w hs ht
  | .n l r, .n l' r', _, _, w, hs, ht => by
    have il := fun (vx vy : Value) (wx : World) (hx : RV wx l vx) (hy : RV wx l' vy) => rboth_any (s := l) (t := l') vx vy wx hx hy
    have ir := fun (vx vy : Value) (wx : World) (hx : RV wx r vx) (hy : RV wx r' vy) => rboth_any (s := r) (t := r') vx vy wx hx hy
    have IL := Lib.hid il
    have IR := Lib.hid ir
    clear il ir
    obtain ⟨b, pl, pr, rfl, hn, hl, hr⟩ := hs
    obtain ⟨c, ql, qr, rfl, hm, kl, kr⟩ := ht
    have HL := Lib.hid hl
    have HR := Lib.hid hr
    have KL := Lib.hid kl
    have KR := Lib.hid kr
    clear hl hr kl kr
    have c0 := hn.c0
    have d0 := hm.c0
    have hb := Below.refl w.heap.size w
    go_enter Try.func44, Try.ntmps44
    go_upto_region 7 with (fail)
    have hb := bdrew hb
    have hn := hn.drew
    have hm := hm.drew
    go_region_held3 (fun w' => w'.cell? ⟨b, 1, none⟩ = some (.pointer pl) ∧ w'.cell? ⟨b, 2, none⟩ = some (.pointer pr) ∧ w'.cell? ⟨c, 1, none⟩ = some (.pointer ql) ∧ w'.cell? ⟨c, 2, none⟩ = some (.pointer qr)) (exact ⟨hn.c1, hn.c2, hm.c1, hm.c2⟩)
      (first
      | (go_at_call 44; first
          | ((with_reducible refine Calls.mono (IL.out _ _ _ (HL.out.below hb) (KL.out.below hb)) ?_); rintro e wn ⟨p, rfl, hp, hkk⟩; obtain ⟨g1, _, _, rfl, _⟩ := hp.shape; have HA := Lib.hid hp; have hb := hb.trans (hkk.mono hb.size); have hn := hn.below hkk; have hm := hm.below hkk; clear hp hkk)
          | ((with_reducible refine Calls.mono (IR.out _ _ _ (HR.out.below hb) (KR.out.below hb)) ?_); rintro e wn ⟨p, rfl, hp, hkk⟩; obtain ⟨g2, _, _, rfl, _⟩ := hp.shape; have HB := Lib.hid hp; have HA := Lib.hid (HA.out.below hkk); have hb := hb.trans (hkk.mono hb.size); have hn := hn.below hkk; have hm := hm.below hkk; clear hp hkk))
      | (go_at_call 63; (with_reducible refine Calls.mono (rpair_any _ HA.out HB.out) ?_); rintro e wn ⟨p, rfl, hp, hkk⟩; obtain ⟨g3, _, _, rfl, _⟩ := hp.shape; have HC := Lib.hid hp; have hb := hb.trans (hkk.mono hb.size); have hn := hn.below hkk; have hm := hm.below hkk; clear hp hkk))
    all_goals
      go_wp2_with fail
      go_ret
      exact ⟨_, rfl, HC.out, hb⟩
end Go.Proofs.Ytigkjmfkpmehlaa
