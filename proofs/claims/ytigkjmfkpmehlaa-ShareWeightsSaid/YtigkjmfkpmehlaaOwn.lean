/- own (of kinfolklaw01): the id that the document's stands for; made. (Printed by wip/ids/own.py.) -/
import Derived.Test.YtigkjmfkpmehlaaMake
namespace Go.Proofs.Ytigkjmfkpmehlaa
open Go.RowKit

theorem RN.far {w : World} {C b : Nat} {k : Int} {pl pr : Option Addr} (h : RN w b k pl pr) (hne : b ≠ C) (x : Bool) (y : Option Addr) : RN ((w.setCell ⟨C, 0, none⟩ (.bool x)).setCell ⟨C, 1, none⟩ (.pointer y)) b k pl pr :=
  (Below.heap_setCell _ _ _ _ hne).trans ((Below.heap_setCell _ _ _ _ hne).trans h)
theorem Pair_is {tl tr t : T} {vl vr : Value} {k : Int} (w : World) (hl : IDV w tl vl) (hr : IDV w tr vr) (dl : tl.depth ≤ 10000) (dr : tr.depth ≤ 10000) (hp : pairR tl tr = (t, k)) :
    Calls Try.prog 26 #[vl, vr] w fun e w' => ∃ v, e = .returned (.tuple #[v, .int .i64 k]) ∧ IDV w' t v ∧ Below w.heap.size w w' := by
  have := Pair_any w hl hr dl dr
  rw [hp] at this
  exact this
/-- Behind the first statement of a pair: the id, in a box. -/
def OwnX (w : World) (B : Nat) (t : T) (s3 : Value) (wx : World) : Prop :=
  ∃ (X : Nat) (x : Bool) (px : Option Addr), s3 = .pointer (some ⟨X, 0, none⟩) ∧ Bx wx X x px ∧ IDV wx t (.agg #[.bool x, .pointer px]) ∧ Below w.heap.size w wx ∧ Bx wx B false none ∧ X ≠ B
theorem OwnX.new {w W : World} {B : Nat} {t : T} {x : Bool} {p : Option Addr} (hb : Below w.heap.size w W) (hv : IDV W t (.agg #[.bool x, .pointer p])) (b1 : Bx W B false none) : OwnX w B t (.pointer (some ⟨W.heap.size, 0, none⟩)) (W.alloc (.cells #[.bool x, .pointer p] 31)) :=
  ⟨W.heap.size, x, p, rfl, Bx.new W x p, hv.alloc _, hb.alloc hb.size _, b1.alloc _, b1.ne⟩
theorem OwnX.put {w W : World} {B X : Nat} {t : T} {x c : Bool} {p d : Option Addr} (hb : Below w.heap.size w W) (hv : IDV W t (.agg #[.bool x, .pointer p])) (b1 : Bx W B false none) (bx : Bx W X c d) (h1 : w.heap.size ≤ X) (h2 : X ≠ B) :
    OwnX w B t (.pointer (some ⟨X, 0, none⟩)) ((W.setCell ⟨X, 0, none⟩ (.bool x)).setCell ⟨X, 1, none⟩ (.pointer p)) :=
  have k1 := Kp.put bx x p
  ⟨X, x, p, rfl, bx.put x p, hv.kp k1, bput hb h1 x p, b1.far (Ne.symm h2) x p, h2⟩

set_option maxRecDepth 100000 in
set_option maxHeartbeats 3200000 in
theorem own_any : ∀ {t : T} {v : Value} (w : World), t.norm = true → t.depth ≤ 16 → RV w t v → Calls Try.prog 62 #[v] w fun e w' => ∃ v', e = .returned v' ∧ IDV w' t v' ∧ Below w.heap.size w w'
  | .z, v, w, _, _, h => by
    obtain ⟨b, pl, pr, rfl, hn⟩ := h
    have b1 := Bx.new w false none
    have hn := hn.below (bel0 w (.cells #[.bool false, .pointer none] 31))
    have hb := bel0 w (.cells #[.bool false, .pointer none] 31)
    have c0 := hn.c0
    go_enter Try.func62, Try.ntmps62
    go_wp2_with fail
    generalize w.alloc (.cells #[.bool false, .pointer none] 31) = w3 at *
    obtain ⟨B, hBB⟩ : ∃ B, w.heap.size = B := ⟨_, rfl⟩
    rw [hBB] at b1 ⊢
    have c10 := b1.c0
    have c11 := b1.c1
    have f10 := b1.f0
    have f11 := b1.f1
    go_wp2_with (go_at_call 21; refine Calls.mono (zero_any _) ?_; rintro e wn ⟨v, rfl, rfl, hk⟩; have hb := hb.trans (hk.mono hb.size); have b1 := b1.below hk; clear c10 c11 f10 f11; have c10 := b1.c0; have c11 := b1.c1; have f10 := b1.f0; have f11 := b1.f1; clear hk)
    have hf := bput hb (R := B) (by omega) false none
    exact bodyPost_ret (v := .agg #[.bool false, .pointer none]) (by simp [results, go_sem, *]) rfl ⟨_, rfl, rfl, by first | exact hf | (rw [← hBB]; exact hf)⟩
  | .o, v, w, _, _, h => by
    obtain ⟨b, pl, pr, rfl, hn⟩ := h
    have b1 := Bx.new w false none
    have hn := hn.below (bel0 w (.cells #[.bool false, .pointer none] 31))
    have hb := bel0 w (.cells #[.bool false, .pointer none] 31)
    have c0 := hn.c0
    go_enter Try.func62, Try.ntmps62
    go_wp2_with fail
    generalize w.alloc (.cells #[.bool false, .pointer none] 31) = w3 at *
    obtain ⟨B, hBB⟩ : ∃ B, w.heap.size = B := ⟨_, rfl⟩
    rw [hBB] at b1 ⊢
    have c10 := b1.c0
    have c11 := b1.c1
    have f10 := b1.f0
    have f11 := b1.f1
    go_wp2_with (go_at_call 18; refine Calls.mono (one_any _) ?_; rintro e wn ⟨v, rfl, rfl, hk⟩; have hb := hb.trans (hk.mono hb.size); have b1 := b1.below hk; clear c10 c11 f10 f11; have c10 := b1.c0; have c11 := b1.c1; have f10 := b1.f0; have f11 := b1.f1; clear hk)
    have hf := bput hb (R := B) (by omega) true none
    exact bodyPost_ret (v := .agg #[.bool true, .pointer none]) (by simp [results, go_sem, *]) rfl ⟨_, rfl, rfl, by first | exact hf | (rw [← hBB]; exact hf)⟩
  | .n l r, v, w, hnm, hd, h => by
    obtain ⟨b, pl, pr, rfl, hn, hl, hr⟩ := h
    have HL := Lib.hid hl
    have HR := Lib.hid hr
    clear hl hr
    obtain ⟨n1, n2, _, _⟩ := T.norm_n hnm
    have hd' := hd
    simp only [T.depth] at hd'
    have dl : l.depth ≤ 10000 := by omega
    have dr : r.depth ≤ 10000 := by omega
    have il := fun (vx : Value) (wx : World) hx => own_any (t := l) (v := vx) wx n1 (by omega) hx
    have ir := fun (vx : Value) (wx : World) hx => own_any (t := r) (v := vx) wx n2 (by omega) hx
    have IL := Lib.hid il
    have IR := Lib.hid ir
    have HP := Lib.hid (show pairR l r = (.n l r, 0) by unfold pairR; rw [pair_self hnm, if_pos hd])
    clear il ir n1 n2 hd'
    have b1 := Bx.new w false none
    have hn := hn.below (bel0 w (.cells #[.bool false, .pointer none] 31))
    have hb := bel0 w (.cells #[.bool false, .pointer none] 31)
    have c0 := hn.c0
    go_enter Try.func62, Try.ntmps62
    go_wp2_with fail
    try go_upto_region 6 with (fail)
    generalize w.alloc (.cells #[.bool false, .pointer none] 31) = w3 at *
    obtain ⟨B, hBB⟩ : ∃ B, w.heap.size = B := ⟨_, rfl⟩
    rw [hBB] at b1 ⊢
    have hb0 := hb
    have b10 := b1
    have hn0 := hn
    have hb := bdrew hb
    have b1 := b1.drew
    have hn := hn.drew
    have m0 : w3.heap.size ≠ b := by have := hn0.lt; omega
    have m1 : w3.heap.size ≠ B := b10.ne
    go_cut [3, 4] (fun s3 s4 wx => OwnX w B (.n l r) s3 wx)
    case first =>
      go_region_held3 (fun w' => w'.cell? ⟨b, 1, none⟩ = some (.pointer pl) ∧ w'.cell? ⟨b, 2, none⟩ = some (.pointer pr)) (with_reducible first
        | exact ⟨hn.c1, hn.c2⟩
        | (refine (fun h => ⟨RN.c1 h, RN.c2 h⟩ : RN _ b 2 pl pr → _) ?_
           repeat (first | exact hn | exact hn0 | refine RN.drew ?_ | refine RN.below ?_ (bel0 _ _) | refine RN.far ?_ (by first | assumption | exact Ne.symm (by assumption)) _ _)))
        (first
        | (go_at_call_of 62 (Value.pointer pl); first
          | (with_reducible refine Calls.mono (IL.out _ _ (HL.out.below hb)) ?_; rintro e wn ⟨v, rfl, hv, hkk⟩; obtain ⟨oA, qA, rfl, hoA⟩ := hv.shape'; have hb := hb.trans (hkk.mono hb.size); have b1 := b1.below hkk; have hn := hn.below hkk; have HA := Lib.hid hv; clear hv; (try have bx1 := bx1.below hkk); clear hkk; have m0 : wn.heap.size ≠ b := (by have := hn.lt; omega); have m1 : wn.heap.size ≠ B := b1.ne; (try (have cx10 := bx1.c0; have cx11 := bx1.c1; have fx10 := bx1.f0; have fx11 := bx1.f1; have lx1 := bx1.lt; have nx1 := bx1.ne)))
          | (have bx1 := Bx.drew (new_of (n := w3.heap.size) hb0 rfl); have ex1 : w3.heap.size ≠ b := (by have := hn0.lt; omega); have eB1 : w3.heap.size ≠ B := b10.ne; have hx1 : w.heap.size ≤ w3.heap.size := hb0.size; have hb := bdrew (hb0.alloc hb0.size (.cells #[.bool false, .pointer none] 31)); have b1 := (b10.alloc (.cells #[.bool false, .pointer none] 31)).drew; have hn := (hn0.below (bel0 _ (.cells #[.bool false, .pointer none] 31))).drew; with_reducible refine Calls.mono (IL.out _ _ (HL.out.below hb)) ?_; rintro e wn ⟨v, rfl, hv, hkk⟩; obtain ⟨oA, qA, rfl, hoA⟩ := hv.shape'; have hb := hb.trans (hkk.mono hb.size); have b1 := b1.below hkk; have hn := hn.below hkk; have HA := Lib.hid hv; clear hv; (try have bx1 := bx1.below hkk); clear hkk; have m0 : wn.heap.size ≠ b := (by have := hn.lt; omega); have m1 : wn.heap.size ≠ B := b1.ne; (try (have cx10 := bx1.c0; have cx11 := bx1.c1; have fx10 := bx1.f0; have fx11 := bx1.f1; have lx1 := bx1.lt; have nx1 := bx1.ne))))
        | (go_at_call_of 62 (Value.pointer pr); first
          | (with_reducible refine Calls.mono (IR.out _ _ (HR.out.below hb)) ?_; rintro e wn ⟨v, rfl, hv, hkk⟩; obtain ⟨oB, qB, rfl, hoB⟩ := hv.shape'; have hb := hb.trans (hkk.mono hb.size); have b1 := b1.below hkk; have hn := hn.below hkk; (try have HA := Lib.hid (HA.out.below hkk)); have HB := Lib.hid hv; clear hv; (try have bx1 := bx1.below hkk); clear hkk; have m0 : wn.heap.size ≠ b := (by have := hn.lt; omega); have m1 : wn.heap.size ≠ B := b1.ne; (try (have cx10 := bx1.c0; have cx11 := bx1.c1; have fx10 := bx1.f0; have fx11 := bx1.f1; have lx1 := bx1.lt; have nx1 := bx1.ne)))
          | (have bx1 := new_of (n := wn.heap.size) hb rfl; have ex1 : wn.heap.size ≠ b := (by have := hn.lt; omega); have eB1 : wn.heap.size ≠ B := b1.ne; have hx1 : w.heap.size ≤ wn.heap.size := hb.size; have hb := hb.alloc hb.size (.cells #[.bool false, .pointer none] 31); have b1 := b1.alloc (.cells #[.bool false, .pointer none] 31); have hn := hn.below (bel0 _ (.cells #[.bool false, .pointer none] 31)); (try have HA := Lib.hid (HA.out.alloc (.cells #[.bool false, .pointer none] 31))); (try have HB := Lib.hid (HB.out.alloc (.cells #[.bool false, .pointer none] 31))); with_reducible refine Calls.mono (IR.out _ _ (HR.out.below hb)) ?_; rintro e wn ⟨v, rfl, hv, hkk⟩; obtain ⟨oB, qB, rfl, hoB⟩ := hv.shape'; have hb := hb.trans (hkk.mono hb.size); have b1 := b1.below hkk; have hn := hn.below hkk; (try have HA := Lib.hid (HA.out.below hkk)); have HB := Lib.hid hv; clear hv; (try have bx1 := bx1.below hkk); clear hkk; have m0 : wn.heap.size ≠ b := (by have := hn.lt; omega); have m1 : wn.heap.size ≠ B := b1.ne; (try (have cx10 := bx1.c0; have cx11 := bx1.c1; have fx10 := bx1.f0; have fx11 := bx1.f1; have lx1 := bx1.lt; have nx1 := bx1.ne))))
        | (go_at_call 26; first
          | (with_reducible refine Calls.mono (Pair_is _ HA.out HB.out dl dr HP.out) ?_; rintro e wn ⟨v, rfl, hv, hkk⟩; obtain ⟨oC, qC, rfl, hoC⟩ := hv.shape'; have hb := hb.trans (hkk.mono hb.size); have b1 := b1.below hkk; have hn := hn.below hkk; have HC := Lib.hid hv; clear hv; (try have bx1 := bx1.below hkk); clear hkk; have m0 : wn.heap.size ≠ b := (by have := hn.lt; omega); have m1 : wn.heap.size ≠ B := b1.ne; (try (have cx10 := bx1.c0; have cx11 := bx1.c1; have fx10 := bx1.f0; have fx11 := bx1.f1; have lx1 := bx1.lt; have nx1 := bx1.ne)))
          | (have bx1 := new_of (n := wn.heap.size) hb rfl; have ex1 : wn.heap.size ≠ b := (by have := hn.lt; omega); have eB1 : wn.heap.size ≠ B := b1.ne; have hx1 : w.heap.size ≤ wn.heap.size := hb.size; have hb := hb.alloc hb.size (.cells #[.bool false, .pointer none] 31); have b1 := b1.alloc (.cells #[.bool false, .pointer none] 31); have hn := hn.below (bel0 _ (.cells #[.bool false, .pointer none] 31)); (try have HA := Lib.hid (HA.out.alloc (.cells #[.bool false, .pointer none] 31))); (try have HB := Lib.hid (HB.out.alloc (.cells #[.bool false, .pointer none] 31))); with_reducible refine Calls.mono (Pair_is _ HA.out HB.out dl dr HP.out) ?_; rintro e wn ⟨v, rfl, hv, hkk⟩; obtain ⟨oC, qC, rfl, hoC⟩ := hv.shape'; have hb := hb.trans (hkk.mono hb.size); have b1 := b1.below hkk; have hn := hn.below hkk; have HC := Lib.hid hv; clear hv; (try have bx1 := bx1.below hkk); clear hkk; have m0 : wn.heap.size ≠ b := (by have := hn.lt; omega); have m1 : wn.heap.size ≠ B := b1.ne; (try (have cx10 := bx1.c0; have cx11 := bx1.c1; have fx10 := bx1.f0; have fx11 := bx1.f1; have lx1 := bx1.lt; have nx1 := bx1.ne)))))
      all_goals
        go_wp2_with fail
        go_meet
        with_reducible first
          | exact OwnX.new hb HC.out b1
          | exact OwnX.put hb HC.out b1 bx1 hx1 eB1
    case rest =>
      obtain ⟨X, x, px, rfl, b2, hX, hb, b1, hXB⟩ := hcut
      have HX := Lib.hid hX
      clear hX
      have c10 := b1.c0
      have c11 := b1.c1
      have f10 := b1.f0
      have f11 := b1.f1
      have c20 := b2.c0
      have c21 := b2.c1
      have hf := bput hb (R := B) (by omega) x px
      go_wp2_with fail
      exact bodyPost_ret (v := .agg #[.bool x, .pointer px]) (by simp [results, go_sem, *]) rfl ⟨_, rfl, HX.out.kp (Kp.put b1 x px), by first | exact hf | (rw [← hBB]; exact hf)⟩
end Go.Proofs.Ytigkjmfkpmehlaa
