/- kinfolkref01: what a pointer to its ID stands for; Zero, One, Pair, Depth, Text. (Printed by wip/ids/ref.py.) -/
import Derived.Test.YtigkjmfkpmehlaaAwake
namespace Go.Proofs.Ytigkjmfkpmehlaa
open Go.RowKit

/-- A block of the document's ID. -/
def RN (w : World) (b : Nat) (k : Int) (pl pr : Option Addr) : Prop := w.heap[b]? = some (.cells #[.int .i64 k, .pointer pl, .pointer pr] 94 (0, 0))
theorem RN.c0 {w : World} {b : Nat} {k : Int} {pl pr : Option Addr} (h : RN w b k pl pr) : w.cell? ⟨b, 0, none⟩ = some (.int .i64 k) := blk_cell h 0
theorem RN.c1 {w : World} {b : Nat} {k : Int} {pl pr : Option Addr} (h : RN w b k pl pr) : w.cell? ⟨b, 1, none⟩ = some (.pointer pl) := blk_cell h 1
theorem RN.c2 {w : World} {b : Nat} {k : Int} {pl pr : Option Addr} (h : RN w b k pl pr) : w.cell? ⟨b, 2, none⟩ = some (.pointer pr) := blk_cell h 2
theorem RN.lt {w : World} {b : Nat} {k : Int} {pl pr : Option Addr} (h : RN w b k pl pr) : b < w.heap.size := blk_lt h
theorem RN.below {w w' : World} {b : Nat} {k : Int} {pl pr : Option Addr} (h : RN w b k pl pr) (hb : Below w.heap.size w w') : RN w' b k pl pr := (hb.block b (blk_lt h)).trans h
theorem RN.drew {w : World} {b : Nat} {k : Int} {pl pr : Option Addr} (h : RN w b k pl pr) : RN w.drew b k pl pr := h
theorem RN.new (w : World) (k : Int) (pl pr : Option Addr) : RN (w.alloc (.cells #[.int .i64 k, .pointer pl, .pointer pr] 94)) w.heap.size k pl pr := heap_alloc_new w _
def T.kind : T → Int
  | .z => 0
  | .o => 1
  | .n _ _ => 2
/-- What a pointer to the document's ID stands for. -/
def RV (w : World) : T → Value → Prop
  | .z, v => ∃ b pl pr, v = .pointer (some ⟨b, 0, none⟩) ∧ RN w b 0 pl pr
  | .o, v => ∃ b pl pr, v = .pointer (some ⟨b, 0, none⟩) ∧ RN w b 1 pl pr
  | .n l r, v => ∃ b pl pr, v = .pointer (some ⟨b, 0, none⟩) ∧ RN w b 2 pl pr ∧ RV w l (.pointer pl) ∧ RV w r (.pointer pr)
theorem RV.below {w w' : World} (hb : Below w.heap.size w w') : ∀ {t : T} {v : Value}, RV w t v → RV w' t v
  | .z, _, ⟨b, pl, pr, hv, hn⟩ => ⟨b, pl, pr, hv, hn.below hb⟩
  | .o, _, ⟨b, pl, pr, hv, hn⟩ => ⟨b, pl, pr, hv, hn.below hb⟩
  | .n _ _, _, ⟨b, pl, pr, hv, hn, hl, hr⟩ => ⟨b, pl, pr, hv, hn.below hb, RV.below hb hl, RV.below hb hr⟩
theorem RV.alloc {w : World} {t : T} {v : Value} (h : RV w t v) (o : Obj) : RV (w.alloc o) t v := h.below (bel0 w o)
theorem RV.shape {w : World} : ∀ {t : T} {v : Value}, RV w t v → ∃ b pl pr, v = .pointer (some ⟨b, 0, none⟩) ∧ RN w b t.kind pl pr
  | .z, _, ⟨b, pl, pr, hv, hn⟩ => ⟨b, pl, pr, hv, hn⟩
  | .o, _, ⟨b, pl, pr, hv, hn⟩ => ⟨b, pl, pr, hv, hn⟩
  | .n _ _, _, ⟨b, pl, pr, hv, hn, _, _⟩ => ⟨b, pl, pr, hv, hn⟩
theorem RV.drew {w : World} {t : T} {v : Value} (h : RV w t v) : RV w.drew t v := RV.below (w := w) (w' := w.drew) (bdrew (Below.refl _ _)) h

theorem rzero_any (w : World) : Calls Try.prog 36 #[] w fun e w' => ∃ v, e = .returned v ∧ RV w' .z v ∧ Below w.heap.size w w' := by
  go_enter Try.func36, Try.ntmps36
  go_wp2_with fail
  go_ret
  exact ⟨_, rfl, ⟨_, _, _, rfl, RN.new w 0 none none⟩, bel0 _ _⟩
theorem rone_any (w : World) : Calls Try.prog 64 #[] w fun e w' => ∃ v, e = .returned v ∧ RV w' .o v ∧ Below w.heap.size w w' := by
  go_enter Try.func64, Try.ntmps64
  go_wp2_with fail
  go_ret
  exact ⟨_, rfl, ⟨_, _, _, rfl, RN.new w 1 none none⟩, bel0 _ _⟩

set_option maxHeartbeats 1600000 in
theorem rpair_any : ∀ {l r : T} {vl vr : Value} (w : World), RV w l vl → RV w r vr → Calls Try.prog 63 #[vl, vr] w fun e w' => ∃ v, e = .returned v ∧ RV w' (T.pair l r) v ∧ Below w.heap.size w w'
  | .z, .z, vl, vr, w, hl, hr => by
    obtain ⟨b, pl, pr, rfl, hn⟩ := hl.shape
    obtain ⟨c, ql, qr, rfl, hm⟩ := hr.shape
    have HL := Lib.hid hl
    have HR := Lib.hid hr
    have hn0 := hn.c0
    have hm0 := hm.c0
    simp only [T.kind] at hn0 hm0
    clear hl hr hn hm
    go_enter Try.func63, Try.ntmps63
    go_upto_region 1 with (fail)
    go_quiet (fail)
    go_wp2_with fail
    go_ret
    exact ⟨_, rfl, HL.out.below (bdrewN (Below.refl _ _) _), bdrewN (Below.refl _ _) _⟩
  | .z, .o, vl, vr, w, hl, hr => by
    obtain ⟨b, pl, pr, rfl, hn⟩ := hl.shape
    obtain ⟨c, ql, qr, rfl, hm⟩ := hr.shape
    have HL := Lib.hid hl
    have HR := Lib.hid hr
    have hn0 := hn.c0
    have hm0 := hm.c0
    simp only [T.kind] at hn0 hm0
    clear hl hr hn hm
    go_enter Try.func63, Try.ntmps63
    go_upto_region 1 with (fail)
    go_quiet (fail)
    go_wp2_with fail
    go_ret
    have hk := bel0 (w.drewN nq) (.cells #[.int .i64 2, .pointer (some ⟨b, 0, none⟩), .pointer (some ⟨c, 0, none⟩)] 94)
    have hk : Below w.heap.size w _ := (bdrewN (Below.refl w.heap.size w) nq).trans hk
    exact ⟨_, rfl, ⟨_, _, _, rfl, RN.new _ _ _ _, HL.out.below hk, HR.out.below hk⟩, hk⟩
  | .z, .n r1 r2, vl, vr, w, hl, hr => by
    obtain ⟨b, pl, pr, rfl, hn⟩ := hl.shape
    obtain ⟨c, ql, qr, rfl, hm⟩ := hr.shape
    have HL := Lib.hid hl
    have HR := Lib.hid hr
    have hn0 := hn.c0
    have hm0 := hm.c0
    simp only [T.kind] at hn0 hm0
    clear hl hr hn hm
    go_enter Try.func63, Try.ntmps63
    go_upto_region 1 with (fail)
    go_quiet (fail)
    go_wp2_with fail
    go_ret
    have hk := bel0 (w.drewN nq) (.cells #[.int .i64 2, .pointer (some ⟨b, 0, none⟩), .pointer (some ⟨c, 0, none⟩)] 94)
    have hk : Below w.heap.size w _ := (bdrewN (Below.refl w.heap.size w) nq).trans hk
    exact ⟨_, rfl, ⟨_, _, _, rfl, RN.new _ _ _ _, HL.out.below hk, HR.out.below hk⟩, hk⟩
  | .o, .z, vl, vr, w, hl, hr => by
    obtain ⟨b, pl, pr, rfl, hn⟩ := hl.shape
    obtain ⟨c, ql, qr, rfl, hm⟩ := hr.shape
    have HL := Lib.hid hl
    have HR := Lib.hid hr
    have hn0 := hn.c0
    have hm0 := hm.c0
    simp only [T.kind] at hn0 hm0
    clear hl hr hn hm
    go_enter Try.func63, Try.ntmps63
    go_upto_region 1 with (fail)
    go_quiet (fail)
    go_wp2_with fail
    go_ret
    have hk := bel0 (w.drewN nq) (.cells #[.int .i64 2, .pointer (some ⟨b, 0, none⟩), .pointer (some ⟨c, 0, none⟩)] 94)
    have hk : Below w.heap.size w _ := (bdrewN (Below.refl w.heap.size w) nq).trans hk
    exact ⟨_, rfl, ⟨_, _, _, rfl, RN.new _ _ _ _, HL.out.below hk, HR.out.below hk⟩, hk⟩
  | .o, .o, vl, vr, w, hl, hr => by
    obtain ⟨b, pl, pr, rfl, hn⟩ := hl.shape
    obtain ⟨c, ql, qr, rfl, hm⟩ := hr.shape
    have HL := Lib.hid hl
    have HR := Lib.hid hr
    have hn0 := hn.c0
    have hm0 := hm.c0
    simp only [T.kind] at hn0 hm0
    clear hl hr hn hm
    go_enter Try.func63, Try.ntmps63
    go_upto_region 1 with (fail)
    go_quiet (fail)
    go_wp2_with fail
    go_ret
    exact ⟨_, rfl, HL.out.below (bdrewN (Below.refl _ _) _), bdrewN (Below.refl _ _) _⟩
  | .o, .n r1 r2, vl, vr, w, hl, hr => by
    obtain ⟨b, pl, pr, rfl, hn⟩ := hl.shape
    obtain ⟨c, ql, qr, rfl, hm⟩ := hr.shape
    have HL := Lib.hid hl
    have HR := Lib.hid hr
    have hn0 := hn.c0
    have hm0 := hm.c0
    simp only [T.kind] at hn0 hm0
    clear hl hr hn hm
    go_enter Try.func63, Try.ntmps63
    go_upto_region 1 with (fail)
    go_quiet (fail)
    go_wp2_with fail
    go_ret
    have hk := bel0 (w.drewN nq) (.cells #[.int .i64 2, .pointer (some ⟨b, 0, none⟩), .pointer (some ⟨c, 0, none⟩)] 94)
    have hk : Below w.heap.size w _ := (bdrewN (Below.refl w.heap.size w) nq).trans hk
    exact ⟨_, rfl, ⟨_, _, _, rfl, RN.new _ _ _ _, HL.out.below hk, HR.out.below hk⟩, hk⟩
  | .n l1 l2, .z, vl, vr, w, hl, hr => by
    obtain ⟨b, pl, pr, rfl, hn⟩ := hl.shape
    obtain ⟨c, ql, qr, rfl, hm⟩ := hr.shape
    have HL := Lib.hid hl
    have HR := Lib.hid hr
    have hn0 := hn.c0
    have hm0 := hm.c0
    simp only [T.kind] at hn0 hm0
    clear hl hr hn hm
    go_enter Try.func63, Try.ntmps63
    go_upto_region 1 with (fail)
    go_quiet (fail)
    go_wp2_with fail
    go_ret
    have hk := bel0 (w.drewN nq) (.cells #[.int .i64 2, .pointer (some ⟨b, 0, none⟩), .pointer (some ⟨c, 0, none⟩)] 94)
    have hk : Below w.heap.size w _ := (bdrewN (Below.refl w.heap.size w) nq).trans hk
    exact ⟨_, rfl, ⟨_, _, _, rfl, RN.new _ _ _ _, HL.out.below hk, HR.out.below hk⟩, hk⟩
  | .n l1 l2, .o, vl, vr, w, hl, hr => by
    obtain ⟨b, pl, pr, rfl, hn⟩ := hl.shape
    obtain ⟨c, ql, qr, rfl, hm⟩ := hr.shape
    have HL := Lib.hid hl
    have HR := Lib.hid hr
    have hn0 := hn.c0
    have hm0 := hm.c0
    simp only [T.kind] at hn0 hm0
    clear hl hr hn hm
    go_enter Try.func63, Try.ntmps63
    go_upto_region 1 with (fail)
    go_quiet (fail)
    go_wp2_with fail
    go_ret
    have hk := bel0 (w.drewN nq) (.cells #[.int .i64 2, .pointer (some ⟨b, 0, none⟩), .pointer (some ⟨c, 0, none⟩)] 94)
    have hk : Below w.heap.size w _ := (bdrewN (Below.refl w.heap.size w) nq).trans hk
    exact ⟨_, rfl, ⟨_, _, _, rfl, RN.new _ _ _ _, HL.out.below hk, HR.out.below hk⟩, hk⟩
  | .n l1 l2, .n r1 r2, vl, vr, w, hl, hr => by
    obtain ⟨b, pl, pr, rfl, hn⟩ := hl.shape
    obtain ⟨c, ql, qr, rfl, hm⟩ := hr.shape
    have HL := Lib.hid hl
    have HR := Lib.hid hr
    have hn0 := hn.c0
    have hm0 := hm.c0
    simp only [T.kind] at hn0 hm0
    clear hl hr hn hm
    go_enter Try.func63, Try.ntmps63
    go_upto_region 1 with (fail)
    go_quiet (fail)
    go_wp2_with fail
    go_ret
    have hk := bel0 (w.drewN nq) (.cells #[.int .i64 2, .pointer (some ⟨b, 0, none⟩), .pointer (some ⟨c, 0, none⟩)] 94)
    have hk : Below w.heap.size w _ := (bdrewN (Below.refl w.heap.size w) nq).trans hk
    exact ⟨_, rfl, ⟨_, _, _, rfl, RN.new _ _ _ _, HL.out.below hk, HR.out.below hk⟩, hk⟩

set_option maxHeartbeats 1600000 in
theorem rdepth_any : ∀ {t : T} {v : Value} (w : World), RV w t v → t.depth ≤ 1000000 → Calls Try.prog 60 #[v] w fun e w' => e = .returned (.int .i64 (t.depth : Int)) ∧ Below w.heap.size w w'
  | .z, v, w, h, _ => by
    obtain ⟨b, pl, pr, rfl, hn⟩ := h
    have c0 := hn.c0
    go_enter Try.func60, Try.ntmps60
    go_wp2_with fail
    go_ret
    exact ⟨rfl, Below.refl _ _⟩
  | .o, v, w, h, _ => by
    obtain ⟨b, pl, pr, rfl, hn⟩ := h
    have c0 := hn.c0
    go_enter Try.func60, Try.ntmps60
    go_wp2_with fail
    go_ret
    exact ⟨rfl, Below.refl _ _⟩
  | .n l r, v, w, h, hd => by
    have il := fun (vx : Value) (wx : World) hx => rdepth_any (t := l) (v := vx) wx hx (by simp only [T.depth] at hd; omega)
    have ir := fun (vx : Value) (wx : World) hx => rdepth_any (t := r) (v := vx) wx hx (by simp only [T.depth] at hd; omega)
    have IL := Lib.hid il
    have IR := Lib.hid ir
    clear il ir
    have hd' := hd
    simp only [T.depth] at hd'
    have w1 : wrap64 (1 + (l.depth : Int)) = 1 + (l.depth : Int) := IntWalk.wrap64_in _ (by omega)
    have w2 : wrap64 (1 + (r.depth : Int)) = 1 + (r.depth : Int) := IntWalk.wrap64_in _ (by omega)
    obtain ⟨b, pl, pr, rfl, hn, hl, hr⟩ := h
    have HL := Lib.hid hl
    have HR := Lib.hid hr
    clear hl hr
    have c0 := hn.c0
    have hb := bdrew (Below.refl w.heap.size w)
    go_enter Try.func60, Try.ntmps60
    go_upto_region 3 with (fail)
    have hn := hn.drew
    go_region_held3 (fun w' => w'.cell? ⟨b, 1, none⟩ = some (.pointer pl) ∧ w'.cell? ⟨b, 2, none⟩ = some (.pointer pr)) (exact ⟨hn.c1, hn.c2⟩)
      (first
        | (go_at_call_of 60 (Value.pointer pl); refine Calls.mono (IL.out _ _ (HL.out.below hb)) ?_; rintro e wn ⟨rfl, hk⟩; have hb := hb.trans (hk.mono hb.size); have hn := hn.below hk; clear hk)
        | (go_at_call_of 60 (Value.pointer pr); refine Calls.mono (IR.out _ _ (HR.out.below hb)) ?_; rintro e wn ⟨rfl, hk⟩; have hb := hb.trans (hk.mono hb.size); have hn := hn.below hk; clear hk))
    all_goals
      go_wp2_with fail
      all_goals
        go_ret
        refine ⟨?_, hb⟩
        first
          | (rw [show ((T.n l r).depth : Int) = 1 + (l.depth : Int) by simp only [T.depth]; omega]; rfl)
          | (rw [show ((T.n l r).depth : Int) = 1 + (r.depth : Int) by simp only [T.depth]; omega]; rfl)

set_option maxHeartbeats 1600000 in
theorem rtext_any : ∀ {t : T} {v : Value} (w : World), t.text.size ≤ 9223372036854775807 → RV w t v → Calls Try.prog 40 #[v] w fun e w' => e = .returned (.string t.text) ∧ Below w.heap.size w w'
  | .z, v, w, _, h => by
    obtain ⟨b, pl, pr, rfl, hn⟩ := h
    have c0 := hn.c0
    go_enter Try.func40, Try.ntmps40
    go_wp2_with fail
    go_ret
    exact ⟨rfl, Below.refl _ _⟩
  | .o, v, w, _, h => by
    obtain ⟨b, pl, pr, rfl, hn⟩ := h
    have c0 := hn.c0
    go_enter Try.func40, Try.ntmps40
    go_wp2_with fail
    go_ret
    exact ⟨rfl, Below.refl _ _⟩
  | .n l r, v, w, hz, h => by
    rw [T.text_n] at hz
    have e1 : ¬ 9223372036854775807 < 1 + l.text.size := by omega
    have e2 : ¬ 9223372036854775807 < 1 + l.text.size + 1 := by omega
    have e3 : ¬ 9223372036854775807 < 1 + l.text.size + 1 + r.text.size := by omega
    have e4 : ¬ 9223372036854775807 < 1 + l.text.size + 1 + r.text.size + 1 := by omega
    have il := fun (vx : Value) (wx : World) hx => rtext_any (t := l) (v := vx) wx (by omega) hx
    have ir := fun (vx : Value) (wx : World) hx => rtext_any (t := r) (v := vx) wx (by omega) hx
    have IL := Lib.hid il
    have IR := Lib.hid ir
    clear il ir
    obtain ⟨b, pl, pr, rfl, hn, hl, hr⟩ := h
    have HL := Lib.hid hl
    have HR := Lib.hid hr
    clear hl hr
    have c0 := hn.c0
    have hb := bdrew (Below.refl w.heap.size w)
    go_enter Try.func40, Try.ntmps40
    go_upto_region 5 with (fail)
    have hn := hn.drew
    go_region_held3 (fun w' => w'.cell? ⟨b, 1, none⟩ = some (.pointer pl) ∧ w'.cell? ⟨b, 2, none⟩ = some (.pointer pr)) (exact ⟨hn.c1, hn.c2⟩)
      (first
        | (go_at_call_of 40 (Value.pointer pl); refine Calls.mono (IL.out _ _ (HL.out.below hb)) ?_; rintro e wn ⟨rfl, hk⟩; have hb := hb.trans (hk.mono hb.size); have hn := hn.below hk; clear hk)
        | (go_at_call_of 40 (Value.pointer pr); refine Calls.mono (IR.out _ _ (HR.out.below hb)) ?_; rintro e wn ⟨rfl, hk⟩; have hb := hb.trans (hk.mono hb.size); have hn := hn.below hk; clear hk))
    go_wp2_with fail
    go_ret
    exact ⟨rfl, hb⟩
end Go.Proofs.Ytigkjmfkpmehlaa
