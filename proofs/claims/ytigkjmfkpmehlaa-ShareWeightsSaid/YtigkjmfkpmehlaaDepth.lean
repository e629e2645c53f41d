/- ID.Depth, Pair. -/
import Derived.Test.YtigkjmfkpmehlaaPair
namespace Go.Proofs.Ytigkjmfkpmehlaa
open Go.RowKit

set_option maxHeartbeats 1000000 in
theorem depth_any : ∀ {t : T} {v : Value} (w : World), IDV w t v → t.depth ≤ 1000000 → Calls Try.prog 20 #[v] w fun e w' => e = .returned (.int .i64 (t.depth : Int)) ∧ Below w.heap.size w w'
  | .z, v, w, h, _ => by
    subst h
    go_enter Try.func20, Try.ntmps20
    go_wp2_with fail
    go_ret
    exact ⟨rfl, bel0 _ _⟩
  | .o, v, w, h, _ => by
    subst h
    go_enter Try.func20, Try.ntmps20
    go_wp2_with fail
    go_ret
    exact ⟨rfl, bel0 _ _⟩
  | .n l r, v, w, h, hd => by
    have ihl := fun vx wx hx => depth_any (t := l) (v := vx) wx hx (by simp only [T.depth] at hd; omega)
    have ihr := fun vx wx hx => depth_any (t := r) (v := vx) wx hx (by simp only [T.depth] at hd; omega)
    have IL := Lib.hid ihl
    have IR := Lib.hid ihr
    obtain ⟨b, x, px, y, py, rfl, hn, hl, hr, _, _⟩ := h.node
    have bx := Bx.new w false (some ⟨b, 0, none⟩)
    have hb := bel0 w (.cells #[.bool false, .pointer (some ⟨b, 0, none⟩)] 31)
    have hn := hn.below hb
    have HL := Lib.hid hl
    have HR := Lib.hid hr
    clear ihl ihr hl hr
    go_enter Try.func20, Try.ntmps20
    go_upto_region 3 with (fail)
    generalize w.alloc (.cells #[.bool false, .pointer (some ⟨b, 0, none⟩)] 31) = W at *
    obtain ⟨B, hB⟩ : ∃ B, w.heap.size = B := ⟨_, rfl⟩
    rw [hB] at bx ⊢
    have hb := bdrew hb
    have bx : Bx W.drew B false (some ⟨b, 0, none⟩) := bx
    have hn : Nd W.drew b x px y py := hn
    go_region_held3 (fun w' => w'.cell? ⟨B, 1, none⟩ = some (.pointer (some ⟨b, 0, none⟩)) ∧ w'.cell? ⟨b, 0, none⟩ = some (.bool x) ∧ w'.cell? ⟨b, 1, none⟩ = some (.pointer px) ∧ w'.cell? ⟨b, 2, none⟩ = some (.bool y) ∧ w'.cell? ⟨b, 3, none⟩ = some (.pointer py)) (exact ⟨bx.c1, hn.c0, hn.c1, hn.c2, hn.c3⟩)
      (first
        | (go_at_call_of 20 (Value.agg #[Value.bool x, Value.pointer px]); refine Calls.mono (IL.out _ _ (HL.out.below hb)) ?_; rintro e wn ⟨rfl, hk⟩; have hb := hb.trans (hk.mono hb.size); have bx := bx.below hk; have hn := hn.below hk; clear hk)
        | (go_at_call_of 20 (Value.agg #[Value.bool y, Value.pointer py]); refine Calls.mono (IR.out _ _ (HR.out.below hb)) ?_; rintro e wn ⟨rfl, hk⟩; have hb := hb.trans (hk.mono hb.size); have bx := bx.below hk; have hn := hn.below hk; clear hk))
    have hw : IntKind.i64.wrap (1 + if l.depth < r.depth then (r.depth : Int) else (l.depth : Int)) = ((T.n l r).depth : Int) := by
      rw [IntWalk.i64_in _ (by simp only [T.depth] at hd; split <;> omega)]
      simp only [T.depth]
      split <;> omega
    rw [hw]
    go_wp2_with fail
    all_goals
      go_ret
      exact ⟨rfl, by rw [← hB]; exact hb⟩

/-- What Pair comes to. -/
def pairR (l r : T) : T × Int := if (T.pair l r).depth ≤ 16 then (T.pair l r, 0) else (.z, 3)
theorem T.pair_depth (l r : T) : (T.pair l r).depth ≤ 1 + max l.depth r.depth := by
  unfold T.pair
  split
  · simp [T.depth]
  · split
    · simp [T.depth]
    · simp [T.depth]

set_option maxHeartbeats 1000000 in
theorem Pair_any {tl tr : T} {vl vr : Value} (w : World) (hl : IDV w tl vl) (hr : IDV w tr vr) (dl : tl.depth ≤ 10000) (dr : tr.depth ≤ 10000) :
    Calls Try.prog 26 #[vl, vr] w fun e w' => ∃ v, e = .returned (.tuple #[v, .int .i64 (pairR tl tr).2]) ∧ IDV w' (pairR tl tr).1 v ∧ Below w.heap.size w w' := by
  obtain ⟨a, pl, rfl, hol⟩ := hl.shape'
  obtain ⟨b, pr, rfl, hor⟩ := hr.shape'
  have hdp := T.pair_depth tl tr
  have HL := Lib.hid hl
  have HR := Lib.hid hr
  clear hl hr
  have b1 := (Bx.new w a pl).alloc (.cells #[.bool b, .pointer pr] 31) |>.alloc (.cells #[.bool false, .pointer none] 31)
  have b2 := (Bx.new (w.alloc (.cells #[.bool a, .pointer pl] 31)) b pr).alloc (.cells #[.bool false, .pointer none] 31)
  have b3 := Bx.new ((w.alloc (.cells #[.bool a, .pointer pl] 31)).alloc (.cells #[.bool b, .pointer pr] 31)) false none
  have hb := ((bel0 w (.cells #[.bool a, .pointer pl] 31)).alloc (by simp) (.cells #[.bool b, .pointer pr] 31)).alloc (by simp; omega) (.cells #[.bool false, .pointer none] 31)
  simp only [asz] at b2 b3
  go_enter Try.func26, Try.ntmps26
  go_wp2_with fail
  generalize ((w.alloc (.cells #[.bool a, .pointer pl] 31)).alloc (.cells #[.bool b, .pointer pr] 31)).alloc (.cells #[.bool false, .pointer none] 31) = w3 at *
  obtain ⟨B, hB⟩ : ∃ B, w.heap.size = B := ⟨_, rfl⟩
  rw [hB] at b1 b2 b3 ⊢
  obtain ⟨C, hC⟩ : ∃ C, B + 1 + 1 = C := ⟨_, rfl⟩
  obtain ⟨D, hD⟩ : ∃ D, B + 1 = D := ⟨_, rfl⟩
  rw [hC] at b3 ⊢
  rw [hD] at b2 ⊢
  refine (pair_any w3 (HL.out.below hb) (HR.out.below hb)).mono ?_
  rintro e w4 ⟨v, rfl, hv, hk⟩
  obtain ⟨c, pc, rfl, hoc⟩ := hv.shape'
  have b3 := b3.below hk
  have hb := hb.trans (hk.mono hb.size)
  clear hk
  have l3 := b3.lt
  have b4 := Bx.new w4 c pc
  have b3 := b3.alloc (.cells #[.bool c, .pointer pc] 31)
  have hv := hv.alloc (.cells #[.bool c, .pointer pc] 31)
  have HV := Lib.hid hv
  have hb := hb.alloc hb.size (.cells #[.bool c, .pointer pc] 31)
  clear hv
  go_wp2_with fail
  obtain ⟨E, hE⟩ : ∃ E, w4.heap.size = E := ⟨_, rfl⟩
  rw [hE] at b4 l3 ⊢
  generalize w4.alloc (.cells #[.bool c, .pointer pc] 31) = w5 at *
  refine (depth_any w5 HV.out (by omega)).mono ?_
  rintro e w6 ⟨rfl, hk⟩
  have hv := HV.out.below hk
  have hb := hb.trans (hk.mono hb.size); have b3 := b3.below hk; have b4 := b4.below hk; have c30 := b3.c0; have c31 := b3.c1; have f30 := b3.f0; have f31 := b3.f1; have n3 := b3.ne; have l3 := b3.lt; have c40 := b4.c0; have c41 := b4.c1; have f40 := b4.f0; have f41 := b4.f1; have n4 := b4.ne; have l4 := b4.lt; clear hk
  have hBC : B ≤ C := by omega
  by_cases hd : (T.pair tl tr).depth ≤ 16
  · go_wp2_with fail
    have hf := bput hb (R := C) (by omega) c pc
    exact bodyPost_ret (v := .tuple #[.agg #[.bool c, .pointer pc], .int .i64 0]) (by simp [results, go_sem, *]) rfl ⟨.agg #[.bool c, .pointer pc], by simp [pairR, hd], by
      simp only [pairR, hd, if_true]
      exact hv.kp (Kp.put b3 c pc), hf⟩
  · go_wp2_with (go_at_call 21; refine (zero_any _).mono ?_; rintro e wn ⟨v, rfl, rfl, hk⟩; have hb := hb.trans (hk.mono hb.size); have b3 := b3.below hk; have b4 := b4.below hk; have c30 := b3.c0; have c31 := b3.c1; have f30 := b3.f0; have f31 := b3.f1; have n3 := b3.ne; have l3 := b3.lt; have c40 := b4.c0; have c41 := b4.c1; have f40 := b4.f0; have f41 := b4.f1; have n4 := b4.ne; have l4 := b4.lt; clear hk)
    have hf := bput hb (R := C) (by omega) false none
    exact bodyPost_ret (v := .tuple #[.agg #[.bool false, .pointer none], .int .i64 3]) (by simp [results, go_sem, *]) rfl ⟨.agg #[.bool false, .pointer none], by simp [pairR, hd], by
      simp only [pairR, hd, if_false]
      rfl, hf⟩
end Go.Proofs.Ytigkjmfkpmehlaa
