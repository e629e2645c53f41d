/- The walk of IdHalves. (Printed by wip/ids/halves.py.) -/
import Derived.Test.YtigkjmfkpmehlaaSplitsWalk
namespace Go.Proofs.Ytigkjmfkpmehlaa
open Go.RowKit

theorem left_fix {w : World} {t : T} {v : Value} (h : IDV w t v) : ∃ lv, IDV w t.left lv ∧ ∀ W, Below w.heap.size w W → Calls Try.prog 32 #[v] W fun e w' => e = .returned lv ∧ Below W.heap.size W w' := by
  cases t with
  | z => obtain rfl := h; exact ⟨_, rfl, fun W _ => left_leaf_z W⟩
  | o => obtain rfl := h; exact ⟨_, rfl, fun W _ => left_leaf_o W⟩
  | n l r =>
    have h' := h
    obtain ⟨b, x, px, y, py, rfl, hn, hl, hr, _, _⟩ := h'.node
    exact ⟨_, hl, fun W hW => left_node W (h.below hW) (hn.below hW)⟩
theorem right_fix {w : World} {t : T} {v : Value} (h : IDV w t v) : ∃ lv, IDV w t.right lv ∧ ∀ W, Below w.heap.size w W → Calls Try.prog 33 #[v] W fun e w' => e = .returned lv ∧ Below W.heap.size W w' := by
  cases t with
  | z => obtain rfl := h; exact ⟨_, rfl, fun W _ => right_leaf_z W⟩
  | o => obtain rfl := h; exact ⟨_, rfl, fun W _ => right_leaf_o W⟩
  | n l r =>
    have h' := h
    obtain ⟨b, x, px, y, py, rfl, hn, hl, hr, _, _⟩ := h'.node
    exact ⟨_, hr, fun W hW => right_node W (h.below hW) (hn.below hW)⟩
def QH (W0 : World) (X1 X2 : Nat) (o1 : Bool) (q1 : Option Addr) (o2 : Bool) (q2 : Option Addr) (w' : World) : Prop := Below W0.heap.size W0 w' ∧ Bx w' X1 o1 q1 ∧ Bx w' X2 o2 q2
theorem QH.below {W0 w' w'' : World} {X1 X2 : Nat} {o1 o2 : Bool} {q1 q2 : Option Addr} (h : QH W0 X1 X2 o1 q1 o2 q2 w') (hk : Below w'.heap.size w' w'') : QH W0 X1 X2 o1 q1 o2 q2 w'' :=
  ⟨h.1.trans (hk.mono h.1.size), h.2.1.below hk, h.2.2.below hk⟩
theorem QH.drew {W0 w' : World} {X1 X2 : Nat} {o1 o2 : Bool} {q1 q2 : Option Addr} (h : QH W0 X1 X2 o1 q1 o2 q2 w') : QH W0 X1 X2 o1 q1 o2 q2 w'.drew := ⟨bdrew h.1, h.2.1.drew, h.2.2.drew⟩
theorem T.left_norm {t : T} (h : t.norm = true) : t.left.norm = true := by
  cases t with
  | n l r => exact (T.norm_n h).1
  | z => rfl
  | o => rfl
theorem T.right_norm {t : T} (h : t.norm = true) : t.right.norm = true := by
  cases t with
  | n l r => exact (T.norm_n h).2.1
  | z => rfl
  | o => rfl
theorem left_at (t : T) (x : Nat → Bool) : t.left.at x = t.at (cons false x) := by cases t <;> rfl
theorem right_at (t : T) (x : Nat → Bool) : t.right.at x = t.at (cons true x) := by cases t <;> rfl
theorem cons_head (x : Nat → Bool) : cons (x 0) (fun k => x (k + 1)) = x := by
  funext k
  cases k <;> rfl
theorem disj_halves {a b : T} (h : a.norm = true) (k : b.norm = true) : a.disj b = (a.left.disj b.left && a.right.disj b.right) := by
  have e1 := disj_iff h k
  have e2 := disj_iff (T.left_norm h) (T.left_norm k)
  have e3 := disj_iff (T.right_norm h) (T.right_norm k)
  rw [Bool.eq_iff_iff, Bool.and_eq_true, e1, e2, e3]
  constructor
  · intro hh
    exact ⟨fun x => by rw [left_at, left_at]; exact hh _, fun x => by rw [right_at, right_at]; exact hh _⟩
  · rintro ⟨p, q⟩ x
    have p' := p (fun k => x (k + 1))
    have q' := q (fun k => x (k + 1))
    rw [left_at, left_at] at p'
    rw [right_at, right_at] at q'
    have hx := cons_head x
    cases h0 : x 0 with
    | false => rw [h0] at hx; rw [hx] at p'; exact p'
    | true => rw [h0] at hx; rw [hx] at q'; exact q'
theorem cov_halves {a b : T} (h : a.norm = true) (k : b.norm = true) : a.cov b = (a.left.cov b.left && a.right.cov b.right) := by
  have e1 := cov_iff h k
  have e2 := cov_iff (T.left_norm h) (T.left_norm k)
  have e3 := cov_iff (T.right_norm h) (T.right_norm k)
  rw [Bool.eq_iff_iff, Bool.and_eq_true, e1, e2, e3]
  constructor
  · intro hh
    exact ⟨fun x => by rw [left_at, left_at]; exact hh _, fun x => by rw [right_at, right_at]; exact hh _⟩
  · rintro ⟨p, q⟩ x
    have p' := p (fun k => x (k + 1))
    have q' := q (fun k => x (k + 1))
    rw [left_at, left_at] at p'
    rw [right_at, right_at] at q'
    have hx := cons_head x
    cases h0 : x 0 with
    | false => rw [h0] at hx; rw [hx] at p'; exact p'
    | true => rw [h0] at hx; rw [hx] at q'; exact q'
theorem disj_symm {a b : T} (h : a.norm = true) (k : b.norm = true) : b.disj a = a.disj b := by
  rw [Bool.eq_iff_iff, disj_iff h k, disj_iff k h]
  constructor
  · intro hh x ⟨p, q⟩
    exact hh x ⟨q, p⟩
  · intro hh x ⟨p, q⟩
    exact hh x ⟨q, p⟩
theorem sum_cov_l {a b : T} (h : a.norm = true) (k : b.norm = true) : (a.sum b).cov a = true := by
  rw [cov_iff (sum_norm h k) h]
  intro x hx
  rw [sum_at, hx]
  rfl
theorem sum_cov_r {a b : T} (h : a.norm = true) (k : b.norm = true) : (a.sum b).cov b = true := by
  rw [cov_iff (sum_norm h k) k]
  intro x hx
  rw [sum_at, hx, Bool.or_true]
theorem cov_disj {a b : T} (h : a.norm = true) (k : b.norm = true) (hd : a.disj b = true) (hc : a.cov b = true) : b.isZ = true := by
  rw [disj_iff h k] at hd
  rw [cov_iff h k] at hc
  cases hz : b.isZ with
  | true => rfl
  | false =>
    obtain ⟨x, hx⟩ := some_at k (fun hh => by rw [hh] at hz; simp [T.isZ] at hz)
    exact absurd ⟨hc x hx, hx⟩ (hd x)

set_option maxRecDepth 100000 in
set_option maxHeartbeats 6400000 in
theorem halves_any {ys zs : List Int} {v u : Value} (w : World) (h : BS w v ys) (hy : ∀ x ∈ ys, 0 ≤ x ∧ x ≤ 255) (hl : ys.length ≤ 9223372036854775807) (k : BS w u zs) (ky : ∀ x ∈ zs, 0 ≤ x ∧ x ≤ 255) (hl2 : zs.length ≤ 9223372036854775807) : Calls Try.prog 7 #[v, u] w fun e w' => e = .returned (.bool true) ∧ Below w.heap.size w w' := by
  have HB := Lib.hid h
  have HY := Lib.hid hy
  have HB2 := Lib.hid k
  have HY2 := Lib.hid ky
  clear h hy k ky
  have hb := Below.refl w.heap.size w
  have hnd := mkT_norm ys
  have hnd2 := mkT_norm zs
  obtain ⟨t1, htt⟩ : ∃ t, mkT ys = t := ⟨_, rfl⟩
  obtain ⟨t2, htt2⟩ : ∃ t, mkT zs = t := ⟨_, rfl⟩
  rw [htt] at hnd
  rw [htt2] at hnd2
  have HM := Lib.hid htt
  have HM2 := Lib.hid htt2
  obtain ⟨n1, _⟩ := hnd
  obtain ⟨n2, _⟩ := hnd2
  have hDD := disj_halves n1 n2
  have hCC := cov_halves n1 n2
  obtain ⟨D, hD⟩ : ∃ D, t1.disj t2 = D := ⟨_, rfl⟩
  rw [hD] at hDD
  have HD := Lib.hid hD
  have HDS := Lib.hid ((disj_symm n1 n2).trans hD)
  have HS1 := Lib.hid (sum_cov_l n1 n2)
  have HS2 := Lib.hid (sum_cov_r n1 n2)
  have N1 := Lib.hid n1
  have N2 := Lib.hid n2
  have HDD := Lib.hid hDD
  have HCC := Lib.hid hCC
  clear htt htt2 n1 n2 hD hDD hCC
  go_enter Try.func7, Try.ntmps7
  go_upto_region 4 with (first
    | (go_at_call 17; refine Calls.mono (awake_any _) ?_; rintro e wn ⟨rfl, hk⟩; have hb := hb.trans (hk.mono hb.size); clear hk)
    | (go_at_call 31; refine Calls.mono (made_is _ (HB.out.below hb) HY.out hl HM.out) ?_; rintro e wn ⟨v, p, rfl, hv, hp, hkk⟩; obtain ⟨o1, q1, rfl, ho⟩ := hv.shape'; have H1 := Lib.hid hv; have hb := hb.trans (hkk.mono hb.size); clear hv hp hkk))
  have b1 := Bx.new wn o1 q1
  have H1 := Lib.hid (H1.out.alloc (.cells #[.bool o1, .pointer q1] 31))
  have hb := hb.alloc hb.size (.cells #[.bool o1, .pointer q1] 31)
  generalize wn.alloc (.cells #[.bool o1, .pointer q1] 31) = wz at *
  obtain ⟨X1, eX1⟩ : ∃ X1, wn.heap.size = X1 := ⟨_, rfl⟩
  rw [eX1] at b1 ⊢
  have c10 := b1.c0
  have c11 := b1.c1
  go_upto_region 5 with (go_at_call 31; refine Calls.mono (made_is _ (HB2.out.below hb) HY2.out hl2 HM2.out) ?_; rintro e wn ⟨v2, p2, rfl, hv, hp, hkk⟩; obtain ⟨o2, q2, rfl, ho⟩ := hv.shape'; have H2 := Lib.hid hv; have hb := hb.trans (hkk.mono hb.size); have b1 := b1.below hkk; have H1 := Lib.hid (H1.out.below hkk); clear hv hp hkk)
  have b2 := Bx.new wn o2 q2
  have b1 := b1.alloc (.cells #[.bool o2, .pointer q2] 31)
  have H1 := Lib.hid (H1.out.alloc (.cells #[.bool o2, .pointer q2] 31))
  have H2 := Lib.hid (H2.out.alloc (.cells #[.bool o2, .pointer q2] 31))
  have hb := hb.alloc hb.size (.cells #[.bool o2, .pointer q2] 31)
  generalize wn.alloc (.cells #[.bool o2, .pointer q2] 31) = W0 at *
  obtain ⟨X2, eX2⟩ : ∃ X2, wn.heap.size = X2 := ⟨_, rfl⟩
  rw [eX2] at b2 ⊢
  obtain ⟨lv1, hl1, L1⟩ := left_fix H1.out
  obtain ⟨lv2, hl2', L2⟩ := left_fix H2.out
  obtain ⟨rv1, hr1, R1⟩ := right_fix H1.out
  obtain ⟨rv2, hr2, R2⟩ := right_fix H2.out
  obtain ⟨a1, p1, rfl, _⟩ := hl1.shape'
  obtain ⟨c1, r1, rfl, _⟩ := hl2'.shape'
  obtain ⟨a2, p2, rfl, _⟩ := hr1.shape'
  obtain ⟨c2, r2, rfl, _⟩ := hr2.shape'
  have HL1 := Lib.hid hl1
  have HL2 := Lib.hid hl2'
  have HR1 := Lib.hid hr1
  have HR2 := Lib.hid hr2
  have L1 := Lib.hid L1
  have L2 := Lib.hid L2
  have R1 := Lib.hid R1
  have R2 := Lib.hid R2
  clear hl1 hl2' hr1 hr2
  have hc10 : ∀ k : InS (QH W0 X1 X2 o1 q1 o2 q2), k.w.cell? ⟨X1, 0, none⟩ = some (.bool o1) := fun k => k.h.2.1.c0
  have hc11 : ∀ k : InS (QH W0 X1 X2 o1 q1 o2 q2), k.w.cell? ⟨X1, 1, none⟩ = some (.pointer q1) := fun k => k.h.2.1.c1
  have hc20 : ∀ k : InS (QH W0 X1 X2 o1 q1 o2 q2), k.w.cell? ⟨X2, 0, none⟩ = some (.bool o2) := fun k => k.h.2.2.c0
  have hc21 : ∀ k : InS (QH W0 X1 X2 o1 q1 o2 q2), k.w.cell? ⟨X2, 1, none⟩ = some (.pointer q2) := fun k => k.h.2.2.c1
  have hin : QH W0 X1 X2 o1 q1 o2 q2 W0 := ⟨Below.refl _ _, b1, b2⟩
  go_cut [9] (fun s9 wx => s9 = .bool D ∧ QH W0 X1 X2 o1 q1 o2 q2 wx)
  case first =>
    cases hdl : t1.left.disj t2.left with
    | false =>
      have HDL := Lib.hid hdl
      have hDD := HDD.out
      rw [hdl, Bool.false_and] at hDD
      clear hdl HDD
      subst hDD
      refine region_in (S := QH W0 X1 X2 o1 q1 o2 q2) (by kernel_rfl) (by kernel_rfl) hin.drew ?_
      have hne : Nonempty (InS (QH W0 X1 X2 o1 q1 o2 q2)) := ⟨⟨_, hin.drew⟩⟩
      repeat (go_big_quiet_step ((first
        | (go_at_call_of 32 (Value.agg #[Value.bool o1, Value.pointer q1]); rename_i kk; have hq1 : Below W0.heap.size W0 kk.w := kk.h.1; (with_reducible refine Calls.mono (L1.out _ hq1) ?_); rintro e wn ⟨rfl, hkk⟩; exact ⟨rfl, ⟨wn, kk.h.below hkk⟩, rfl⟩)
        | (go_at_call_of 32 (Value.agg #[Value.bool o2, Value.pointer q2]); rename_i kk; have hq1 : Below W0.heap.size W0 kk.w := kk.h.1; (with_reducible refine Calls.mono (L2.out _ hq1) ?_); rintro e wn ⟨rfl, hkk⟩; exact ⟨rfl, ⟨wn, kk.h.below hkk⟩, rfl⟩)
        | (go_at_call_of 22 (Value.agg #[Value.bool a1, Value.pointer p1]); rename_i kk; have hq1 : Below W0.heap.size W0 kk.w := kk.h.1; (with_reducible refine Calls.mono (disj_is _ (HL1.out.below hq1) (HL2.out.below hq1) HDL.out) ?_); rintro e wn ⟨rfl, hkk⟩; exact ⟨rfl, ⟨wn, kk.h.below hkk⟩, rfl⟩))))
      refine wpQuiet_nil ?_
      rintro _ ⟨⟨wk, hk⟩, rfl⟩
      go_wp2_with fail
      go_meet
      exact ⟨by trivial, hk⟩
    | true =>
      cases hdr : t1.right.disj t2.right with
      | false =>
        have HDL := Lib.hid hdl
        have HDR := Lib.hid hdr
        have hDD := HDD.out
        rw [hdl, hdr, Bool.true_and] at hDD
        clear hdl hdr HDD
        subst hDD
        refine region_in (S := QH W0 X1 X2 o1 q1 o2 q2) (by kernel_rfl) (by kernel_rfl) hin.drew ?_
        have hne : Nonempty (InS (QH W0 X1 X2 o1 q1 o2 q2)) := ⟨⟨_, hin.drew⟩⟩
        repeat (go_big_quiet_step ((first
          | (go_at_call_of 32 (Value.agg #[Value.bool o1, Value.pointer q1]); rename_i kk; have hq1 : Below W0.heap.size W0 kk.w := kk.h.1; (with_reducible refine Calls.mono (L1.out _ hq1) ?_); rintro e wn ⟨rfl, hkk⟩; exact ⟨rfl, ⟨wn, kk.h.below hkk⟩, rfl⟩)
          | (go_at_call_of 32 (Value.agg #[Value.bool o2, Value.pointer q2]); rename_i kk; have hq1 : Below W0.heap.size W0 kk.w := kk.h.1; (with_reducible refine Calls.mono (L2.out _ hq1) ?_); rintro e wn ⟨rfl, hkk⟩; exact ⟨rfl, ⟨wn, kk.h.below hkk⟩, rfl⟩)
          | (go_at_call_of 33 (Value.agg #[Value.bool o1, Value.pointer q1]); rename_i kk; have hq1 : Below W0.heap.size W0 kk.w := kk.h.1; (with_reducible refine Calls.mono (R1.out _ hq1) ?_); rintro e wn ⟨rfl, hkk⟩; exact ⟨rfl, ⟨wn, kk.h.below hkk⟩, rfl⟩)
          | (go_at_call_of 33 (Value.agg #[Value.bool o2, Value.pointer q2]); rename_i kk; have hq1 : Below W0.heap.size W0 kk.w := kk.h.1; (with_reducible refine Calls.mono (R2.out _ hq1) ?_); rintro e wn ⟨rfl, hkk⟩; exact ⟨rfl, ⟨wn, kk.h.below hkk⟩, rfl⟩)
          | (go_at_call_of 22 (Value.agg #[Value.bool a1, Value.pointer p1]); rename_i kk; have hq1 : Below W0.heap.size W0 kk.w := kk.h.1; (with_reducible refine Calls.mono (disj_is _ (HL1.out.below hq1) (HL2.out.below hq1) HDL.out) ?_); rintro e wn ⟨rfl, hkk⟩; exact ⟨rfl, ⟨wn, kk.h.below hkk⟩, rfl⟩)
          | (go_at_call_of 22 (Value.agg #[Value.bool a2, Value.pointer p2]); rename_i kk; have hq1 : Below W0.heap.size W0 kk.w := kk.h.1; (with_reducible refine Calls.mono (disj_is _ (HR1.out.below hq1) (HR2.out.below hq1) HDR.out) ?_); rintro e wn ⟨rfl, hkk⟩; exact ⟨rfl, ⟨wn, kk.h.below hkk⟩, rfl⟩))))
        refine wpQuiet_nil ?_
        rintro _ ⟨⟨wk, hk⟩, rfl⟩
        go_wp2_with fail
        go_meet
        exact ⟨by trivial, hk⟩
      | true =>
        have HDL := Lib.hid hdl
        have HDR := Lib.hid hdr
        have hDD := HDD.out
        rw [hdl, hdr, Bool.true_and] at hDD
        clear hdl hdr HDD
        subst hDD
        refine region_in (S := QH W0 X1 X2 o1 q1 o2 q2) (by kernel_rfl) (by kernel_rfl) hin.drew ?_
        have hne : Nonempty (InS (QH W0 X1 X2 o1 q1 o2 q2)) := ⟨⟨_, hin.drew⟩⟩
        repeat (go_big_quiet_step ((first
          | (go_at_call_of 32 (Value.agg #[Value.bool o1, Value.pointer q1]); rename_i kk; have hq1 : Below W0.heap.size W0 kk.w := kk.h.1; (with_reducible refine Calls.mono (L1.out _ hq1) ?_); rintro e wn ⟨rfl, hkk⟩; exact ⟨rfl, ⟨wn, kk.h.below hkk⟩, rfl⟩)
          | (go_at_call_of 32 (Value.agg #[Value.bool o2, Value.pointer q2]); rename_i kk; have hq1 : Below W0.heap.size W0 kk.w := kk.h.1; (with_reducible refine Calls.mono (L2.out _ hq1) ?_); rintro e wn ⟨rfl, hkk⟩; exact ⟨rfl, ⟨wn, kk.h.below hkk⟩, rfl⟩)
          | (go_at_call_of 33 (Value.agg #[Value.bool o1, Value.pointer q1]); rename_i kk; have hq1 : Below W0.heap.size W0 kk.w := kk.h.1; (with_reducible refine Calls.mono (R1.out _ hq1) ?_); rintro e wn ⟨rfl, hkk⟩; exact ⟨rfl, ⟨wn, kk.h.below hkk⟩, rfl⟩)
          | (go_at_call_of 33 (Value.agg #[Value.bool o2, Value.pointer q2]); rename_i kk; have hq1 : Below W0.heap.size W0 kk.w := kk.h.1; (with_reducible refine Calls.mono (R2.out _ hq1) ?_); rintro e wn ⟨rfl, hkk⟩; exact ⟨rfl, ⟨wn, kk.h.below hkk⟩, rfl⟩)
          | (go_at_call_of 22 (Value.agg #[Value.bool a1, Value.pointer p1]); rename_i kk; have hq1 : Below W0.heap.size W0 kk.w := kk.h.1; (with_reducible refine Calls.mono (disj_is _ (HL1.out.below hq1) (HL2.out.below hq1) HDL.out) ?_); rintro e wn ⟨rfl, hkk⟩; exact ⟨rfl, ⟨wn, kk.h.below hkk⟩, rfl⟩)
          | (go_at_call_of 22 (Value.agg #[Value.bool a2, Value.pointer p2]); rename_i kk; have hq1 : Below W0.heap.size W0 kk.w := kk.h.1; (with_reducible refine Calls.mono (disj_is _ (HR1.out.below hq1) (HR2.out.below hq1) HDR.out) ?_); rintro e wn ⟨rfl, hkk⟩; exact ⟨rfl, ⟨wn, kk.h.below hkk⟩, rfl⟩))))
        refine wpQuiet_nil ?_
        rintro _ ⟨⟨wk, hk⟩, rfl⟩
        go_wp2_with fail
        go_meet
        exact ⟨by trivial, hk⟩
  case rest =>
    obtain ⟨rfl, hq⟩ := hcut
    clear HDD
    go_upto_region 6 with (fail)
    go_cut [67] (fun s67 wx => s67 = .bool false ∧ QH W0 X1 X2 o1 q1 o2 q2 wx)
    case first =>
      cases hcl : t1.left.cov t2.left with
      | false =>
        have HCL := Lib.hid hcl
        have hCC := HCC.out
        rw [hcl, Bool.false_and] at hCC
        have HC := Lib.hid hCC
        clear hcl hCC
        refine region_in (S := QH W0 X1 X2 o1 q1 o2 q2) (by kernel_rfl) (by kernel_rfl) hq.drew ?_
        have hne : Nonempty (InS (QH W0 X1 X2 o1 q1 o2 q2)) := ⟨⟨_, hq.drew⟩⟩
        repeat (go_big_quiet_step ((first
          | (go_at_call_of 32 (Value.agg #[Value.bool o1, Value.pointer q1]); rename_i kk; have hq1 : Below W0.heap.size W0 kk.w := kk.h.1; (with_reducible refine Calls.mono (L1.out _ hq1) ?_); rintro e wn ⟨rfl, hkk⟩; exact ⟨rfl, ⟨wn, kk.h.below hkk⟩, rfl⟩)
          | (go_at_call_of 32 (Value.agg #[Value.bool o2, Value.pointer q2]); rename_i kk; have hq1 : Below W0.heap.size W0 kk.w := kk.h.1; (with_reducible refine Calls.mono (L2.out _ hq1) ?_); rintro e wn ⟨rfl, hkk⟩; exact ⟨rfl, ⟨wn, kk.h.below hkk⟩, rfl⟩)
          | (go_at_call_of 34 (Value.agg #[Value.bool a1, Value.pointer p1]); rename_i kk; have hq1 : Below W0.heap.size W0 kk.w := kk.h.1; (with_reducible refine Calls.mono (cov_is _ (HL1.out.below hq1) (HL2.out.below hq1) HCL.out) ?_); rintro e wn ⟨rfl, hkk⟩; exact ⟨rfl, ⟨wn, kk.h.below hkk⟩, rfl⟩)
          | (go_at_call 34; rename_i kk; have hq1 : Below W0.heap.size W0 kk.w := kk.h.1; (with_reducible refine Calls.mono (cov_is _ (H1.out.below hq1) (H2.out.below hq1) HC.out) ?_); rintro e wn ⟨rfl, hkk⟩; exact ⟨rfl, ⟨wn, kk.h.below hkk⟩, rfl⟩)
          | (go_at_call 22; rename_i kk; have hq1 : Below W0.heap.size W0 kk.w := kk.h.1; (with_reducible refine Calls.mono (disj_is _ (H1.out.below hq1) (H2.out.below hq1) HD.out) ?_); rintro e wn ⟨rfl, hkk⟩; exact ⟨rfl, ⟨wn, kk.h.below hkk⟩, rfl⟩)
          | (go_at_call 22; rename_i kk; have hq1 : Below W0.heap.size W0 kk.w := kk.h.1; (with_reducible refine Calls.mono (disj_is _ (H2.out.below hq1) (H1.out.below hq1) HDS.out) ?_); rintro e wn ⟨rfl, hkk⟩; exact ⟨rfl, ⟨wn, kk.h.below hkk⟩, rfl⟩))))
        refine wpQuiet_nil ?_
        rintro _ ⟨⟨wk, hk⟩, rfl⟩
        go_wp2_with fail
        go_meet
        exact ⟨by trivial, hk⟩
      | true =>
        cases hcr : t1.right.cov t2.right with
        | false =>
          have HCL := Lib.hid hcl
          have HCR := Lib.hid hcr
          have hCC := HCC.out
          rw [hcl, hcr, Bool.true_and] at hCC
          have HC := Lib.hid hCC
          clear hcl hcr hCC
          refine region_in (S := QH W0 X1 X2 o1 q1 o2 q2) (by kernel_rfl) (by kernel_rfl) hq.drew ?_
          have hne : Nonempty (InS (QH W0 X1 X2 o1 q1 o2 q2)) := ⟨⟨_, hq.drew⟩⟩
          repeat (go_big_quiet_step ((first
            | (go_at_call_of 32 (Value.agg #[Value.bool o1, Value.pointer q1]); rename_i kk; have hq1 : Below W0.heap.size W0 kk.w := kk.h.1; (with_reducible refine Calls.mono (L1.out _ hq1) ?_); rintro e wn ⟨rfl, hkk⟩; exact ⟨rfl, ⟨wn, kk.h.below hkk⟩, rfl⟩)
            | (go_at_call_of 32 (Value.agg #[Value.bool o2, Value.pointer q2]); rename_i kk; have hq1 : Below W0.heap.size W0 kk.w := kk.h.1; (with_reducible refine Calls.mono (L2.out _ hq1) ?_); rintro e wn ⟨rfl, hkk⟩; exact ⟨rfl, ⟨wn, kk.h.below hkk⟩, rfl⟩)
            | (go_at_call_of 33 (Value.agg #[Value.bool o1, Value.pointer q1]); rename_i kk; have hq1 : Below W0.heap.size W0 kk.w := kk.h.1; (with_reducible refine Calls.mono (R1.out _ hq1) ?_); rintro e wn ⟨rfl, hkk⟩; exact ⟨rfl, ⟨wn, kk.h.below hkk⟩, rfl⟩)
            | (go_at_call_of 33 (Value.agg #[Value.bool o2, Value.pointer q2]); rename_i kk; have hq1 : Below W0.heap.size W0 kk.w := kk.h.1; (with_reducible refine Calls.mono (R2.out _ hq1) ?_); rintro e wn ⟨rfl, hkk⟩; exact ⟨rfl, ⟨wn, kk.h.below hkk⟩, rfl⟩)
            | (go_at_call_of 34 (Value.agg #[Value.bool a1, Value.pointer p1]); rename_i kk; have hq1 : Below W0.heap.size W0 kk.w := kk.h.1; (with_reducible refine Calls.mono (cov_is _ (HL1.out.below hq1) (HL2.out.below hq1) HCL.out) ?_); rintro e wn ⟨rfl, hkk⟩; exact ⟨rfl, ⟨wn, kk.h.below hkk⟩, rfl⟩)
            | (go_at_call_of 34 (Value.agg #[Value.bool a2, Value.pointer p2]); rename_i kk; have hq1 : Below W0.heap.size W0 kk.w := kk.h.1; (with_reducible refine Calls.mono (cov_is _ (HR1.out.below hq1) (HR2.out.below hq1) HCR.out) ?_); rintro e wn ⟨rfl, hkk⟩; exact ⟨rfl, ⟨wn, kk.h.below hkk⟩, rfl⟩)
            | (go_at_call 34; rename_i kk; have hq1 : Below W0.heap.size W0 kk.w := kk.h.1; (with_reducible refine Calls.mono (cov_is _ (H1.out.below hq1) (H2.out.below hq1) HC.out) ?_); rintro e wn ⟨rfl, hkk⟩; exact ⟨rfl, ⟨wn, kk.h.below hkk⟩, rfl⟩)
            | (go_at_call 22; rename_i kk; have hq1 : Below W0.heap.size W0 kk.w := kk.h.1; (with_reducible refine Calls.mono (disj_is _ (H1.out.below hq1) (H2.out.below hq1) HD.out) ?_); rintro e wn ⟨rfl, hkk⟩; exact ⟨rfl, ⟨wn, kk.h.below hkk⟩, rfl⟩)
            | (go_at_call 22; rename_i kk; have hq1 : Below W0.heap.size W0 kk.w := kk.h.1; (with_reducible refine Calls.mono (disj_is _ (H2.out.below hq1) (H1.out.below hq1) HDS.out) ?_); rintro e wn ⟨rfl, hkk⟩; exact ⟨rfl, ⟨wn, kk.h.below hkk⟩, rfl⟩))))
          refine wpQuiet_nil ?_
          rintro _ ⟨⟨wk, hk⟩, rfl⟩
          go_wp2_with fail
          go_meet
          exact ⟨by trivial, hk⟩
        | true =>
          have HCL := Lib.hid hcl
          have HCR := Lib.hid hcr
          have hCC := HCC.out
          rw [hcl, hcr, Bool.true_and] at hCC
          have HC := Lib.hid hCC
          clear hcl hcr hCC
          refine region_in (S := QH W0 X1 X2 o1 q1 o2 q2) (by kernel_rfl) (by kernel_rfl) hq.drew ?_
          have hne : Nonempty (InS (QH W0 X1 X2 o1 q1 o2 q2)) := ⟨⟨_, hq.drew⟩⟩
          repeat (go_big_quiet_step ((first
            | (go_at_call_of 32 (Value.agg #[Value.bool o1, Value.pointer q1]); rename_i kk; have hq1 : Below W0.heap.size W0 kk.w := kk.h.1; (with_reducible refine Calls.mono (L1.out _ hq1) ?_); rintro e wn ⟨rfl, hkk⟩; exact ⟨rfl, ⟨wn, kk.h.below hkk⟩, rfl⟩)
            | (go_at_call_of 32 (Value.agg #[Value.bool o2, Value.pointer q2]); rename_i kk; have hq1 : Below W0.heap.size W0 kk.w := kk.h.1; (with_reducible refine Calls.mono (L2.out _ hq1) ?_); rintro e wn ⟨rfl, hkk⟩; exact ⟨rfl, ⟨wn, kk.h.below hkk⟩, rfl⟩)
            | (go_at_call_of 33 (Value.agg #[Value.bool o1, Value.pointer q1]); rename_i kk; have hq1 : Below W0.heap.size W0 kk.w := kk.h.1; (with_reducible refine Calls.mono (R1.out _ hq1) ?_); rintro e wn ⟨rfl, hkk⟩; exact ⟨rfl, ⟨wn, kk.h.below hkk⟩, rfl⟩)
            | (go_at_call_of 33 (Value.agg #[Value.bool o2, Value.pointer q2]); rename_i kk; have hq1 : Below W0.heap.size W0 kk.w := kk.h.1; (with_reducible refine Calls.mono (R2.out _ hq1) ?_); rintro e wn ⟨rfl, hkk⟩; exact ⟨rfl, ⟨wn, kk.h.below hkk⟩, rfl⟩)
            | (go_at_call_of 34 (Value.agg #[Value.bool a1, Value.pointer p1]); rename_i kk; have hq1 : Below W0.heap.size W0 kk.w := kk.h.1; (with_reducible refine Calls.mono (cov_is _ (HL1.out.below hq1) (HL2.out.below hq1) HCL.out) ?_); rintro e wn ⟨rfl, hkk⟩; exact ⟨rfl, ⟨wn, kk.h.below hkk⟩, rfl⟩)
            | (go_at_call_of 34 (Value.agg #[Value.bool a2, Value.pointer p2]); rename_i kk; have hq1 : Below W0.heap.size W0 kk.w := kk.h.1; (with_reducible refine Calls.mono (cov_is _ (HR1.out.below hq1) (HR2.out.below hq1) HCR.out) ?_); rintro e wn ⟨rfl, hkk⟩; exact ⟨rfl, ⟨wn, kk.h.below hkk⟩, rfl⟩)
            | (go_at_call 34; rename_i kk; have hq1 : Below W0.heap.size W0 kk.w := kk.h.1; (with_reducible refine Calls.mono (cov_is _ (H1.out.below hq1) (H2.out.below hq1) HC.out) ?_); rintro e wn ⟨rfl, hkk⟩; exact ⟨rfl, ⟨wn, kk.h.below hkk⟩, rfl⟩)
            | (go_at_call 22; rename_i kk; have hq1 : Below W0.heap.size W0 kk.w := kk.h.1; (with_reducible refine Calls.mono (disj_is _ (H1.out.below hq1) (H2.out.below hq1) HD.out) ?_); rintro e wn ⟨rfl, hkk⟩; exact ⟨rfl, ⟨wn, kk.h.below hkk⟩, rfl⟩)
            | (go_at_call 22; rename_i kk; have hq1 : Below W0.heap.size W0 kk.w := kk.h.1; (with_reducible refine Calls.mono (disj_is _ (H2.out.below hq1) (H1.out.below hq1) HDS.out) ?_); rintro e wn ⟨rfl, hkk⟩; exact ⟨rfl, ⟨wn, kk.h.below hkk⟩, rfl⟩))))
          refine wpQuiet_nil ?_
          rintro _ ⟨⟨wk, hk⟩, rfl⟩
          go_wp2_with fail
          go_meet
          exact ⟨by trivial, hk⟩
    case rest =>
      obtain ⟨rfl, hq⟩ := hcut
      obtain ⟨hbq, b1, b2⟩ := hq
      have hb := hb.trans (hbq.mono hb.size)
      have H1 := Lib.hid (H1.out.below hbq)
      have H2 := Lib.hid (H2.out.below hbq)
      clear hc10 hc11 hc20 hc21 hin hbq
      have c10 := b1.c0
      have c11 := b1.c1
      have c20 := b2.c0
      have c21 := b2.c1
      cases D with
      | false =>
        have HSU := Lib.hid (show sumR t1 t2 = (.z, 5) by unfold sumR; rw [if_neg (by rw [HD.out]; exact Bool.false_ne_true)])
        go_wp2_with (go_at_call 23; refine Calls.mono (sum_is _ H1.out H2.out HSU.out) ?_; rintro e wn ⟨v, rfl, hv, hkk⟩; obtain ⟨o3, q3, rfl, _⟩ := hv.shape'; have hb := hb.trans (hkk.mono hb.size); clear hv hkk)
        go_ret
        exact ⟨by trivial, hb.alloc hb.size _⟩
      | true =>
        have HSU := Lib.hid (show sumR t1 t2 = (t1.sum t2, 0) by unfold sumR; rw [if_pos HD.out])
        go_upto_region 9 with (go_at_call 23; refine Calls.mono (sum_is _ H1.out H2.out HSU.out) ?_; rintro e wn ⟨v, rfl, hv, hkk⟩; obtain ⟨o3, q3, rfl, _⟩ := hv.shape'; have H3 := Lib.hid hv; have hb := hb.trans (hkk.mono hb.size); have b1 := b1.below hkk; have b2 := b2.below hkk; have H1 := Lib.hid (H1.out.below hkk); have H2 := Lib.hid (H2.out.below hkk); clear hv hkk)
        have b3 := Bx.new wn o3 q3
        have b1 := b1.alloc (.cells #[.bool o3, .pointer q3] 31)
        have b2 := b2.alloc (.cells #[.bool o3, .pointer q3] 31)
        have H1 := Lib.hid (H1.out.alloc (.cells #[.bool o3, .pointer q3] 31))
        have H2 := Lib.hid (H2.out.alloc (.cells #[.bool o3, .pointer q3] 31))
        have H3 := Lib.hid (H3.out.alloc (.cells #[.bool o3, .pointer q3] 31))
        have hb := hb.alloc hb.size (.cells #[.bool o3, .pointer q3] 31)
        generalize wn.alloc (.cells #[.bool o3, .pointer q3] 31) = wz at *
        obtain ⟨X3, eX3⟩ : ∃ X3, wn.heap.size = X3 := ⟨_, rfl⟩
        rw [eX3] at b3 ⊢
        clear c10 c11 c20 c21
        have c10 := b1.c0
        have c11 := b1.c1
        have c20 := b2.c0
        have c21 := b2.c1
        have c30 := b3.c0
        have c31 := b3.c1
        cases hc : t1.cov t2 with
        | false =>
          have HCV := Lib.hid hc
          clear hc
          go_wp2_with (first
            | (go_at_call 34; with_reducible refine Calls.mono (cov_is _ H3.out H1.out HS1.out) ?_; rintro e wn ⟨rfl, hkk⟩; have hb := hb.trans (hkk.mono hb.size); have b1 := b1.below hkk; have b2 := b2.below hkk; have b3 := b3.below hkk; have H1 := Lib.hid (H1.out.below hkk); have H2 := Lib.hid (H2.out.below hkk); have H3 := Lib.hid (H3.out.below hkk); clear c10 c11 c20 c21 c30 c31; have c10 := b1.c0; have c11 := b1.c1; have c20 := b2.c0; have c21 := b2.c1; have c30 := b3.c0; have c31 := b3.c1; clear hkk)
            | (go_at_call 34; with_reducible refine Calls.mono (cov_is _ H3.out H2.out HS2.out) ?_; rintro e wn ⟨rfl, hkk⟩; have hb := hb.trans (hkk.mono hb.size); have b1 := b1.below hkk; have b2 := b2.below hkk; have b3 := b3.below hkk; have H1 := Lib.hid (H1.out.below hkk); have H2 := Lib.hid (H2.out.below hkk); have H3 := Lib.hid (H3.out.below hkk); clear c10 c11 c20 c21 c30 c31; have c10 := b1.c0; have c11 := b1.c1; have c20 := b2.c0; have c21 := b2.c1; have c30 := b3.c0; have c31 := b3.c1; clear hkk)
            | (go_at_call 34; with_reducible refine Calls.mono (cov_is _ H1.out H2.out HCV.out) ?_; rintro e wn ⟨rfl, hkk⟩; have hb := hb.trans (hkk.mono hb.size); have b1 := b1.below hkk; have b2 := b2.below hkk; have b3 := b3.below hkk; have H1 := Lib.hid (H1.out.below hkk); have H2 := Lib.hid (H2.out.below hkk); have H3 := Lib.hid (H3.out.below hkk); clear c10 c11 c20 c21 c30 c31; have c10 := b1.c0; have c11 := b1.c1; have c20 := b2.c0; have c21 := b2.c1; have c30 := b3.c0; have c31 := b3.c1; clear hkk))
          go_ret
          exact ⟨by trivial, hb⟩
        | true =>
          have HCV := Lib.hid hc
          have HZ := Lib.hid (cov_disj N1.out N2.out HD.out hc)
          clear hc
          go_wp2_with (first
            | (go_at_call 34; with_reducible refine Calls.mono (cov_is _ H3.out H1.out HS1.out) ?_; rintro e wn ⟨rfl, hkk⟩; have hb := hb.trans (hkk.mono hb.size); have b1 := b1.below hkk; have b2 := b2.below hkk; have b3 := b3.below hkk; have H1 := Lib.hid (H1.out.below hkk); have H2 := Lib.hid (H2.out.below hkk); have H3 := Lib.hid (H3.out.below hkk); clear c10 c11 c20 c21 c30 c31; have c10 := b1.c0; have c11 := b1.c1; have c20 := b2.c0; have c21 := b2.c1; have c30 := b3.c0; have c31 := b3.c1; clear hkk)
            | (go_at_call 34; with_reducible refine Calls.mono (cov_is _ H3.out H2.out HS2.out) ?_; rintro e wn ⟨rfl, hkk⟩; have hb := hb.trans (hkk.mono hb.size); have b1 := b1.below hkk; have b2 := b2.below hkk; have b3 := b3.below hkk; have H1 := Lib.hid (H1.out.below hkk); have H2 := Lib.hid (H2.out.below hkk); have H3 := Lib.hid (H3.out.below hkk); clear c10 c11 c20 c21 c30 c31; have c10 := b1.c0; have c11 := b1.c1; have c20 := b2.c0; have c21 := b2.c1; have c30 := b3.c0; have c31 := b3.c1; clear hkk)
            | (go_at_call 34; with_reducible refine Calls.mono (cov_is _ H1.out H2.out HCV.out) ?_; rintro e wn ⟨rfl, hkk⟩; have hb := hb.trans (hkk.mono hb.size); have b1 := b1.below hkk; have b2 := b2.below hkk; have b3 := b3.below hkk; have H1 := Lib.hid (H1.out.below hkk); have H2 := Lib.hid (H2.out.below hkk); have H3 := Lib.hid (H3.out.below hkk); clear c10 c11 c20 c21 c30 c31; have c10 := b1.c0; have c11 := b1.c1; have c20 := b2.c0; have c21 := b2.c1; have c30 := b3.c0; have c31 := b3.c1; clear hkk)
            | (go_at_call 24; with_reducible refine Calls.mono (isZero_is _ H2.out HZ.out) ?_; rintro e wn ⟨rfl, hkk⟩; have hb := hb.trans (hkk.mono hb.size); have b1 := b1.below hkk; have b2 := b2.below hkk; have b3 := b3.below hkk; have H1 := Lib.hid (H1.out.below hkk); have H2 := Lib.hid (H2.out.below hkk); have H3 := Lib.hid (H3.out.below hkk); clear c10 c11 c20 c21 c30 c31; have c10 := b1.c0; have c11 := b1.c1; have c20 := b2.c0; have c21 := b2.c1; have c30 := b3.c0; have c31 := b3.c1; clear hkk))
          go_ret
          exact ⟨by trivial, hb⟩
end Go.Proofs.Ytigkjmfkpmehlaa
