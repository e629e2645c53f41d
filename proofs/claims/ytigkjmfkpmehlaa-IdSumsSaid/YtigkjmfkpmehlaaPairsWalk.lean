/- The walk of IdPairs. (Printed by wip/ids/pairs.py.) -/
import Derived.Test.YtigkjmfkpmehlaaLike
namespace Go.Proofs.Ytigkjmfkpmehlaa
open Go.RowKit

theorem T.cov_refl : ∀ t : T, t.cov t = true
  | .z => rfl
  | .o => rfl
  | .n l r => by simp [T.cov, T.cov_refl l, T.cov_refl r]
theorem T.same_refl (t : T) : t.same t = true := by simp [T.same, T.cov_refl]
theorem T.left_depth (t : T) : t.left.depth ≤ t.depth := by
  cases t with
  | n l r => simp only [T.left, T.depth]; omega
  | z => exact Nat.le_refl _
  | o => exact Nat.le_refl _
theorem T.right_depth (t : T) : t.right.depth ≤ t.depth := by
  cases t with
  | n l r => simp only [T.right, T.depth]; omega
  | z => exact Nat.le_refl _
  | o => exact Nat.le_refl _
theorem pairR_self {t : T} (h : t.norm = true) (hd : t.depth ≤ 16) : pairR t.left t.right = (t, 0) := by
  cases t with
  | z => rfl
  | o => rfl
  | n l r =>
    simp only [T.left, T.right]
    unfold pairR
    rw [pair_self h, if_pos hd]
theorem made_is {ys : List Int} {t : T} {v : Value} (w : World) (h : BS w v ys) (hy : ∀ x ∈ ys, 0 ≤ x ∧ x ≤ 255) (hl : ys.length ≤ 9223372036854775807) (ht : mkT ys = t) : Calls Try.prog 31 #[v] w fun e w' => ∃ vi p, e = .returned (.tuple #[vi, p]) ∧ IDV w' t vi ∧ RV w' t p ∧ Below w.heap.size w w' := by
  subst ht
  exact made_any w h hy hl
theorem same_is {s t : T} {u v : Value} {a : Bool} (w : World) (h : IDV w s u) (k : IDV w t v) (ha : s.same t = a) : Calls Try.prog 35 #[u, v] w fun e w' => e = .returned (.bool a) ∧ Below w.heap.size w w' := by
  subst ha
  exact Same_any w h k
/-- Behind the Pair of the halves. -/
def PairsJ (w : World) (X : Nat) (t : T) (o : Bool) (q : Option Addr) (p : Value) (s5 s6 : Value) (wx : World) : Prop :=
  ∃ (J : Nat) (x : Bool) (px : Option Addr), s5 = .pointer (some ⟨J, 0, none⟩) ∧ s6 = .int .i64 0 ∧ Bx wx J x px ∧ IDV wx t (.agg #[.bool x, .pointer px]) ∧ Bx wx X o q ∧ IDV wx t (.agg #[.bool o, .pointer q]) ∧ RV wx t p ∧ Below w.heap.size w wx ∧ J ≠ X
theorem PairsJ.new {w W : World} {X : Nat} {t : T} {o x : Bool} {q px : Option Addr} {p : Value} (hb : Below w.heap.size w W) (b1 : Bx W X o q) (ht : IDV W t (.agg #[.bool o, .pointer q])) (hp : RV W t p) (hc : IDV W t (.agg #[.bool x, .pointer px])) :
    PairsJ w X t o q p (.pointer (some ⟨W.heap.size, 0, none⟩)) (.int .i64 0) (W.alloc (.cells #[.bool x, .pointer px] 31)) :=
  ⟨W.heap.size, x, px, rfl, rfl, Bx.new W x px, hc.alloc _, b1.alloc _, ht.alloc _, hp.alloc _, hb.alloc hb.size _, b1.ne⟩
theorem PairsJ.put {w W : World} {X Y : Nat} {t : T} {o x c : Bool} {q px d : Option Addr} {p : Value} (hb : Below w.heap.size w W) (b1 : Bx W X o q) (ht : IDV W t (.agg #[.bool o, .pointer q])) (hp : RV W t p) (hc : IDV W t (.agg #[.bool x, .pointer px])) (bx : Bx W Y c d) (h1 : w.heap.size ≤ Y) (h2 : Y ≠ X) :
    PairsJ w X t o q p (.pointer (some ⟨Y, 0, none⟩)) (.int .i64 0) ((W.setCell ⟨Y, 0, none⟩ (.bool x)).setCell ⟨Y, 1, none⟩ (.pointer px)) :=
  have k1 := Kp.put bx x px
  ⟨Y, x, px, rfl, rfl, bx.put x px, hc.kp k1, b1.far (Ne.symm h2) x px, ht.kp k1, RV.far bx x px hp, bput hb h1 x px, h2⟩

set_option maxRecDepth 100000 in
set_option maxHeartbeats 3200000 in
theorem pairs_any {ys : List Int} {v : Value} (w : World) (h : BS w v ys) (hy : ∀ x ∈ ys, 0 ≤ x ∧ x ≤ 255) (hl : ys.length ≤ 9223372036854775807) : Calls Try.prog 8 #[v] w fun e w' => e = .returned (.bool true) ∧ Below w.heap.size w w' := by
  have HB := Lib.hid h
  have HY := Lib.hid hy
  clear h hy
  have hb := Below.refl w.heap.size w
  have hnd := mkT_norm ys
  have htp : pairR (mkT ys).left (mkT ys).right = (mkT ys, 0) := pairR_self hnd.1 (by omega)
  have hsame : (mkT ys).same (mkT ys) = true := T.same_refl _
  have hld : (mkT ys).left.depth ≤ 10000 := by have := T.left_depth (mkT ys); omega
  have hrd : (mkT ys).right.depth ≤ 10000 := by have := T.right_depth (mkT ys); omega
  have hdd : (mkT ys).depth ≤ 20 := by omega
  clear hnd
  obtain ⟨t, htt⟩ : ∃ t, mkT ys = t := ⟨_, rfl⟩
  rw [htt] at htp hsame hld hrd hdd
  have HM := Lib.hid htt
  clear htt
  have HTP := Lib.hid htp
  have HS := Lib.hid hsame
  clear htp hsame
  go_enter Try.func8, Try.ntmps8
  go_upto_region 4 with (first
    | (go_at_call 17; refine Calls.mono (awake_any _) ?_; rintro e wn ⟨rfl, hk⟩; have hb := hb.trans (hk.mono hb.size); clear hk)
    | (go_at_call 31; refine Calls.mono (made_is _ (HB.out.below hb) HY.out hl HM.out) ?_; rintro e wn ⟨v, p, rfl, hv, hp, hkk⟩; obtain ⟨o, q, rfl, ho⟩ := hv.shape'; have HT := Lib.hid hv; have HP := Lib.hid hp; have hb := hb.trans (hkk.mono hb.size); clear hv hp hkk))
  have b1 := Bx.new wn o q
  have hb := hb.alloc hb.size (.cells #[.bool o, .pointer q] 31)
  have HT := Lib.hid (HT.out.alloc (.cells #[.bool o, .pointer q] 31))
  have HP := Lib.hid (HP.out.alloc (.cells #[.bool o, .pointer q] 31))
  generalize wn.alloc (.cells #[.bool o, .pointer q] 31) = wy at *
  obtain ⟨X, eX⟩ : ∃ X, wn.heap.size = X := ⟨_, rfl⟩
  rw [eX] at b1 ⊢
  have hb0 := hb
  have b10 := b1
  have HT0 := HT
  have HP0 := HP
  have hb := bdrew hb
  have b1 := b1.drew
  have HT := Lib.hid HT.out.drew
  have HP := Lib.hid HP.out.drew
  have mb1 : wy.heap.size ≠ X := b10.ne
  go_cut [5, 6] (fun s5 s6 wx => PairsJ w X t o q p s5 s6 wx)
  case first =>
    go_region_held3 (fun w' => w'.cell? ⟨X, 0, none⟩ = some (.bool o) ∧ w'.cell? ⟨X, 1, none⟩ = some (.pointer q)) (with_reducible (refine (fun h0 => ⟨Bx.c0 h0, Bx.c1 h0⟩ : Bx _ X o q → _) ?_; all_goals repeat (first | exact b1 | exact b10 | refine Bx.drew ?_ | refine Bx.alloc ?_ _ | refine Bx.far ?_ (by first | assumption | exact Ne.symm (by assumption) | (intro hh; (try simp only [asz, ssz] at hh); omega)) _ _)))
      (first
          | (go_at_call 32; first
            | (with_reducible refine Calls.mono (left_any _ HT.out) ?_; rintro e wn ⟨v, rfl, hv, hkk⟩; obtain ⟨oA, qA, rfl, hoA⟩ := hv.shape'; have hb := hb.trans (hkk.mono hb.size); have b1 := b1.below hkk; (try have HT := Lib.hid (HT.out.below hkk)); (try have HP := Lib.hid (HP.out.below hkk)); have HA := Lib.hid hv; clear hv; (try have bx1 := bx1.below hkk); clear hkk; have mb1 : wn.heap.size ≠ X := b1.ne; (try (have cx10 := bx1.c0; have cx11 := bx1.c1; have fx10 := bx1.f0; have fx11 := bx1.f1; have lx1 := bx1.lt; have nx1 := bx1.ne)))
            | (have bx1 := Bx.drew (new_of (n := wy.heap.size) hb0 rfl); have exb1 : wy.heap.size ≠ X := b10.ne; have hx1 : w.heap.size ≤ wy.heap.size := hb0.size; have hb := bdrew (hb0.alloc hb0.size (.cells #[.bool false, .pointer none] 31)); have b1 := (b10.alloc (.cells #[.bool false, .pointer none] 31)).drew; (try have HT := Lib.hid (HT0.out.alloc (.cells #[.bool false, .pointer none] 31)).drew); (try have HP := Lib.hid (HP0.out.alloc (.cells #[.bool false, .pointer none] 31)).drew); with_reducible refine Calls.mono (left_any _ HT.out) ?_; rintro e wn ⟨v, rfl, hv, hkk⟩; obtain ⟨oA, qA, rfl, hoA⟩ := hv.shape'; have hb := hb.trans (hkk.mono hb.size); have b1 := b1.below hkk; (try have HT := Lib.hid (HT.out.below hkk)); (try have HP := Lib.hid (HP.out.below hkk)); have HA := Lib.hid hv; clear hv; (try have bx1 := bx1.below hkk); clear hkk; have mb1 : wn.heap.size ≠ X := b1.ne; (try (have cx10 := bx1.c0; have cx11 := bx1.c1; have fx10 := bx1.f0; have fx11 := bx1.f1; have lx1 := bx1.lt; have nx1 := bx1.ne))))
          | (go_at_call 33; first
            | (with_reducible refine Calls.mono (right_any _ HT.out) ?_; rintro e wn ⟨v, rfl, hv, hkk⟩; obtain ⟨oBq, qBq, rfl, hoBq⟩ := hv.shape'; have hb := hb.trans (hkk.mono hb.size); have b1 := b1.below hkk; (try have HT := Lib.hid (HT.out.below hkk)); (try have HP := Lib.hid (HP.out.below hkk)); (try have HA := Lib.hid (HA.out.below hkk)); have HBq := Lib.hid hv; clear hv; (try have bx1 := bx1.below hkk); clear hkk; have mb1 : wn.heap.size ≠ X := b1.ne; (try (have cx10 := bx1.c0; have cx11 := bx1.c1; have fx10 := bx1.f0; have fx11 := bx1.f1; have lx1 := bx1.lt; have nx1 := bx1.ne)))
            | (have bx1 := new_of (n := wn.heap.size) hb rfl; have exb1 : wn.heap.size ≠ X := b1.ne; have hx1 : w.heap.size ≤ wn.heap.size := hb.size; have hb := hb.alloc hb.size (.cells #[.bool false, .pointer none] 31); have b1 := b1.alloc (.cells #[.bool false, .pointer none] 31); (try have HT := Lib.hid (HT.out.alloc (.cells #[.bool false, .pointer none] 31))); (try have HP := Lib.hid (HP.out.alloc (.cells #[.bool false, .pointer none] 31))); (try have HA := Lib.hid (HA.out.alloc (.cells #[.bool false, .pointer none] 31))); with_reducible refine Calls.mono (right_any _ HT.out) ?_; rintro e wn ⟨v, rfl, hv, hkk⟩; obtain ⟨oBq, qBq, rfl, hoBq⟩ := hv.shape'; have hb := hb.trans (hkk.mono hb.size); have b1 := b1.below hkk; (try have HT := Lib.hid (HT.out.below hkk)); (try have HP := Lib.hid (HP.out.below hkk)); (try have HA := Lib.hid (HA.out.below hkk)); have HBq := Lib.hid hv; clear hv; (try have bx1 := bx1.below hkk); clear hkk; have mb1 : wn.heap.size ≠ X := b1.ne; (try (have cx10 := bx1.c0; have cx11 := bx1.c1; have fx10 := bx1.f0; have fx11 := bx1.f1; have lx1 := bx1.lt; have nx1 := bx1.ne))))
          | (go_at_call 26; first
            | (with_reducible refine Calls.mono (Pair_is _ HA.out HBq.out hld hrd HTP.out) ?_; rintro e wn ⟨v, rfl, hv, hkk⟩; obtain ⟨oC, qC, rfl, hoC⟩ := hv.shape'; have hb := hb.trans (hkk.mono hb.size); have b1 := b1.below hkk; (try have HT := Lib.hid (HT.out.below hkk)); (try have HP := Lib.hid (HP.out.below hkk)); (try have HA := Lib.hid (HA.out.below hkk)); (try have HBq := Lib.hid (HBq.out.below hkk)); have HC := Lib.hid hv; clear hv; (try have bx1 := bx1.below hkk); clear hkk; have mb1 : wn.heap.size ≠ X := b1.ne; (try (have cx10 := bx1.c0; have cx11 := bx1.c1; have fx10 := bx1.f0; have fx11 := bx1.f1; have lx1 := bx1.lt; have nx1 := bx1.ne)))
            | (have bx1 := new_of (n := wn.heap.size) hb rfl; have exb1 : wn.heap.size ≠ X := b1.ne; have hx1 : w.heap.size ≤ wn.heap.size := hb.size; have hb := hb.alloc hb.size (.cells #[.bool false, .pointer none] 31); have b1 := b1.alloc (.cells #[.bool false, .pointer none] 31); (try have HT := Lib.hid (HT.out.alloc (.cells #[.bool false, .pointer none] 31))); (try have HP := Lib.hid (HP.out.alloc (.cells #[.bool false, .pointer none] 31))); (try have HA := Lib.hid (HA.out.alloc (.cells #[.bool false, .pointer none] 31))); (try have HBq := Lib.hid (HBq.out.alloc (.cells #[.bool false, .pointer none] 31))); with_reducible refine Calls.mono (Pair_is _ HA.out HBq.out hld hrd HTP.out) ?_; rintro e wn ⟨v, rfl, hv, hkk⟩; obtain ⟨oC, qC, rfl, hoC⟩ := hv.shape'; have hb := hb.trans (hkk.mono hb.size); have b1 := b1.below hkk; (try have HT := Lib.hid (HT.out.below hkk)); (try have HP := Lib.hid (HP.out.below hkk)); (try have HA := Lib.hid (HA.out.below hkk)); (try have HBq := Lib.hid (HBq.out.below hkk)); have HC := Lib.hid hv; clear hv; (try have bx1 := bx1.below hkk); clear hkk; have mb1 : wn.heap.size ≠ X := b1.ne; (try (have cx10 := bx1.c0; have cx11 := bx1.c1; have fx10 := bx1.f0; have fx11 := bx1.f1; have lx1 := bx1.lt; have nx1 := bx1.ne)))))
    all_goals
      go_wp2_with fail
      go_meet
      first
        | exact PairsJ.new hb b1 HT.out HP.out HC.out
        | exact PairsJ.put hb b1 HT.out HP.out HC.out bx1 hx1 exb1
  case rest =>
    clear hb b1 HT HP hb0 b10 HT0 HP0 mb1
    obtain ⟨J, x, px, rfl, rfl, b2, hJ, b1, hT, hP, hb, hJX⟩ := hcut
    have HT := Lib.hid hT
    have HJ := Lib.hid hJ
    have HP := Lib.hid hP
    obtain ⟨g, gl, gr, rfl, _⟩ := hP.shape
    clear hT hJ hP
    go_upto_region 6 with (fail)
    have b3 := Bx.new wc false none
    have b1 := b1.alloc (.cells #[.bool false, .pointer none] 31)
    have b2 := b2.alloc (.cells #[.bool false, .pointer none] 31)
    have HT := Lib.hid (HT.out.alloc (.cells #[.bool false, .pointer none] 31))
    have HJ := Lib.hid (HJ.out.alloc (.cells #[.bool false, .pointer none] 31))
    have HP := Lib.hid (HP.out.alloc (.cells #[.bool false, .pointer none] 31))
    have hb := hb.alloc hb.size (.cells #[.bool false, .pointer none] 31)
    generalize wc.alloc (.cells #[.bool false, .pointer none] 31) = wz at *
    obtain ⟨Z, eZ⟩ : ∃ Z, wc.heap.size = Z := ⟨_, rfl⟩
    rw [eZ] at b3 ⊢
    have hb := bdrew hb
    have b1 := b1.drew
    have b2 := b2.drew
    have b3 := b3.drew
    have HT := Lib.hid HT.out.drew
    have HJ := Lib.hid HJ.out.drew
    have HP := Lib.hid HP.out.drew
    go_region_held3 (fun w' => w'.cell? ⟨X, 0, none⟩ = some (.bool o) ∧ w'.cell? ⟨X, 1, none⟩ = some (.pointer q) ∧ w'.cell? ⟨J, 0, none⟩ = some (.bool x) ∧ w'.cell? ⟨J, 1, none⟩ = some (.pointer px) ∧ w'.cell? ⟨Z, 0, none⟩ = some (.bool false) ∧ w'.cell? ⟨Z, 1, none⟩ = some (.pointer none)) (exact ⟨b1.c0, b1.c1, b2.c0, b2.c1, b3.c0, b3.c1⟩)
      (first
      | (go_at_call_of 29 (Value.agg #[Value.bool o, Value.pointer q]); with_reducible refine Calls.mono (like_any _ hdd HT.out HP.out) ?_; rintro e wn ⟨rfl, hkk⟩; have hb := hb.trans (hkk.mono hb.size); have b1 := b1.below hkk; have b2 := b2.below hkk; have b3 := b3.below hkk; have HT := Lib.hid (HT.out.below hkk); have HJ := Lib.hid (HJ.out.below hkk); have HP := Lib.hid (HP.out.below hkk); clear hkk)
      | (go_at_call 35; with_reducible refine Calls.mono (same_is _ HT.out HJ.out HS.out) ?_; rintro e wn ⟨rfl, hkk⟩; have hb := hb.trans (hkk.mono hb.size); have b1 := b1.below hkk; have b2 := b2.below hkk; have b3 := b3.below hkk; have HT := Lib.hid (HT.out.below hkk); have HJ := Lib.hid (HJ.out.below hkk); have HP := Lib.hid (HP.out.below hkk); clear hkk)
      | (go_at_call 36; refine Calls.mono (rzero_any _) ?_; rintro e wn ⟨zp, rfl, hzp, hkk⟩; have hb := hb.trans (hkk.mono hb.size); have b1 := b1.below hkk; have b2 := b2.below hkk; have b3 := b3.below hkk; have HT := Lib.hid (HT.out.below hkk); have HJ := Lib.hid (HJ.out.below hkk); have HP := Lib.hid (HP.out.below hkk); clear hkk; have HZP := Lib.hid hzp; clear hzp)
      | (go_at_call 29; refine Calls.mono (like_any _ (t := .z) (by decide) (IDV.zero _) HZP.out) ?_; rintro e wn ⟨rfl, hkk⟩; have hb := hb.trans (hkk.mono hb.size); have b1 := b1.below hkk; have b2 := b2.below hkk; have b3 := b3.below hkk; have HT := Lib.hid (HT.out.below hkk); have HJ := Lib.hid (HJ.out.below hkk); have HP := Lib.hid (HP.out.below hkk); clear hkk))
    go_wp2_with fail
    go_ret
    exact ⟨by trivial, hb⟩
end Go.Proofs.Ytigkjmfkpmehlaa
