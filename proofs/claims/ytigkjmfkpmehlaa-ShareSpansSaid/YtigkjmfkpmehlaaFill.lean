/- share.fill, Of: of its spans an id is made again. -/
import Derived.Test.YtigkjmfkpmehlaaIdx
namespace Go.Proofs.Ytigkjmfkpmehlaa
open Go.RowKit

/-- A block of one cell. -/
def Oc (w : World) (b : Nat) (v : Value) (ty : TypeId) : Prop := w.heap[b]? = some (.cells #[v] ty (0, 0))
theorem Oc.below {w w' : World} {b : Nat} {v : Value} {ty : TypeId} (h : Oc w b v ty) (hb : Below w.heap.size w w') : Oc w' b v ty := (hb.block b (blk_lt h)).trans h
theorem Oc.new (w : World) (v : Value) (ty : TypeId) : Oc (w.alloc (.cells #[v] ty)) w.heap.size v ty := heap_alloc_new w _
theorem Oc.alloc {w : World} {b : Nat} {v : Value} {ty : TypeId} (h : Oc w b v ty) (o : Obj) : Oc (w.alloc o) b v ty := h.below (bel0 w o)
theorem Oc.c0 {w : World} {b : Nat} {v : Value} {ty : TypeId} (h : Oc w b v ty) : w.cell? ⟨b, 0, none⟩ = some v := blk_cell h 0
theorem contains_at {xs : List (Nat × Nat)} {v : Value} {f g x y : Nat} {b : Bool} (w : World) (h : CX w v xs) (hs : Sm xs) (hx : fl f = x) (hy : fl g = y) (hf : f < 2 ^ 40) (hg : g < 2 ^ 40) (hl : xs.length ≤ 1000000) (hbb : xs.contains (f, g) = b) :
    Calls Try.prog 85 #[v, .complex .f64 x y] w fun e w' => e = .returned (.bool b) ∧ Below w.heap.size w w' := by
  subst hx
  subst hy
  exact contains_any (p := (f, g)) w h hs hf hg hl hbb
theorem containsF_at {xs : List (Nat × Nat)} {v : Value} {f t x y z B E : Nat} {b : Bool} (w : World) (h : CX w v xs) (hs : Sm xs) (hx : fl f = x) (hz : fl t = z) (hB : w.cell? ⟨B, 0, none⟩ = some (.complex .f64 x y)) (hE : w.cell? ⟨E, 0, none⟩ = some (.float .f64 z)) (hf : f < 2 ^ 50) (ht : t < 2 ^ 50) (hl : xs.length ≤ 1000000) (g : Nat) (hy : fl g = y) (hbb : xs.any (inP f t) = b) :
    Calls Try.prog 87 #[v, .func (.func 86) #[] #[.pointer (some ⟨B, 0, none⟩), .pointer (some ⟨E, 0, none⟩)]] w fun e w' => e = .returned (.bool b) ∧ Below w.heap.size w w' := by
  subst hx
  subst hy
  subst hz
  exact containsF_any w h hs hB hE hf ht hl hbb
theorem one_id (w : World) : Calls Try.prog 18 #[] w fun e w' => e = .returned (.agg #[.bool true, .pointer none]) ∧ Below w.heap.size w w' :=
  (one_any w).mono fun _ _ ⟨_, he, hv, hb⟩ => ⟨by rw [he]; exact congrArg Ending.returned hv, hb⟩
theorem zero_id (w : World) : Calls Try.prog 21 #[] w fun e w' => e = .returned (.agg #[.bool false, .pointer none]) ∧ Below w.heap.size w w' :=
  (zero_any w).mono fun _ _ ⟨_, he, hv, hb⟩ => ⟨by rw [he]; exact congrArg Ending.returned hv, hb⟩
def FillOk (d : Nat) : Prop := ∀ (f : Nat) (xs : List (Nat × Nat)) (t : T) (v : Value) (x y : Nat) (w : World), f + 2 ^ d ≤ 2 ^ 17 → Sm xs → xs.length ≤ 1000000 → CX w v xs → fl f = x → fl (2 ^ d) = y → fillT xs d f = t →
  Calls Try.prog 72 #[v, .complex .f64 x y, .int .i64 (d : Int)] w fun e w' => ∃ u, e = .returned u ∧ IDV w' t u ∧ Below w.heap.size w w'
set_option maxRecDepth 100000 in
set_option maxHeartbeats 1600000 in
theorem fill_hit {d f x y : Nat} {D : Int} {xs : List (Nat × Nat)} {v : Value} (w : World) (hf : f < 2 ^ 40) (hd : 2 ^ d < 2 ^ 40) (hs : Sm xs) (hl : xs.length ≤ 1000000) (h : CX w v xs) (hx : fl f = x) (hy : fl (2 ^ d) = y) (hit : xs.contains (f, 2 ^ d) = true) :
    Calls Try.prog 72 #[v, .complex .f64 x y, .int .i64 D] w fun e w' => ∃ u, e = .returned u ∧ IDV w' .o u ∧ Below w.heap.size w w' := by
  have H := Lib.hid h
  obtain ⟨a, cap, rfl, _⟩ := id h
  have HS := Lib.hid hs
  have HX := Lib.hid hx
  have HY := Lib.hid hy
  have HIT := Lib.hid hit
  clear h hs hx hy hit
  have b1 := (Oc.new w (.complex .f64 x y) 23).alloc (.cells #[.bool false, .pointer none] 31)
  have b3 := Bx.new (w.alloc (.cells #[.complex .f64 x y] 23)) false none
  have hb := (bel0 w (.cells #[.complex .f64 x y] 23)).alloc (by simp) (.cells #[.bool false, .pointer none] 31)
  simp only [asz] at b3
  go_enter Try.func72, Try.ntmps72
  go_wp2_with fail
  generalize (w.alloc (.cells #[.complex .f64 x y] 23)).alloc (.cells #[.bool false, .pointer none] 31) = w3 at *
  obtain ⟨B, hB⟩ : ∃ B, w.heap.size = B := ⟨_, rfl⟩
  rw [hB] at b1 b3 ⊢
  obtain ⟨C, hC⟩ : ∃ C, B + 1 = C := ⟨_, rfl⟩
  rw [hC] at b3 ⊢
  have c10 := b1.c0
  have c30 := b3.c0
  have c31 := b3.c1
  have f30 := b3.f0
  have f31 := b3.f1
  go_wp2_with (first
    | (go_at_call 85; (with_reducible refine Calls.mono (contains_at _ (H.out.below hb) HS.out HX.out HY.out hf hd hl HIT.out) ?_); rintro e wn ⟨rfl, hkk⟩; have hb := hb.trans (hkk.mono hb.size); have b1 := b1.below hkk; have b3 := b3.below hkk; clear c10 c30 c31 f30 f31 hkk; have c10 := b1.c0; have c30 := b3.c0; have c31 := b3.c1; have f30 := b3.f0; have f31 := b3.f1)
    | (go_at_call 18; (with_reducible refine Calls.mono (one_id _) ?_); rintro e wn ⟨rfl, hkk⟩; have hb := hb.trans (hkk.mono hb.size); have b1 := b1.below hkk; have b3 := b3.below hkk; clear c10 c30 c31 f30 f31 hkk; have c10 := b1.c0; have c30 := b3.c0; have c31 := b3.c1; have f30 := b3.f0; have f31 := b3.f1))
  have hf := bput hb (R := C) (by omega) true none
  exact bodyPost_ret (v := .agg #[.bool true, .pointer none]) (by simp [results, go_sem, *]) rfl ⟨_, rfl, rfl, by first | exact hf | (rw [← hB]; exact hf)⟩
theorem fill_add {f d x y : Nat} (h : f + 2 ^ d ≤ 2 ^ 17) (hx : fl f = x) (hy : fl (2 ^ d) = y) : ∃ z, fl (f + 2 ^ d) = z ∧ floatBits .add .f64 x y = some z := by
  refine ⟨_, rfl, ?_⟩
  rw [← hx, ← hy]
  exact fl_add (by omega)
theorem hmf : ∀ (fn : Fn) (first cap : Array Value) (w : World), (Instr.makeFunc fn first cap).run Try.prog w = .ok (.func fn first cap) w := fun _ _ _ _ => rfl
set_option maxRecDepth 100000 in
set_option maxHeartbeats 1600000 in
theorem fill_no {d f x y : Nat} {xs : List (Nat × Nat)} {v : Value} (w : World) (hfd : f + 2 ^ d ≤ 2 ^ 17) (hs : Sm xs) (hl : xs.length ≤ 1000000) (h : CX w v xs) (hx : fl f = x) (hy : fl (2 ^ d) = y) (hit : xs.contains (f, 2 ^ d) = false)
    (hn : d = 0 ∨ (1 ≤ d ∧ d ≤ 16 ∧ xs.any (inP f (f + 2 ^ d)) = false)) :
    Calls Try.prog 72 #[v, .complex .f64 x y, .int .i64 (d : Int)] w fun e w' => ∃ u, e = .returned u ∧ IDV w' .z u ∧ Below w.heap.size w w' := by
  have hp := Nat.two_pow_pos d
  have hf : f < 2 ^ 40 := by omega
  have hd : 2 ^ d < 2 ^ 40 := by omega
  have hf' : f < 2 ^ 50 := by omega
  have ht : f + 2 ^ d < 2 ^ 50 := by omega
  obtain ⟨z, hz, hadd⟩ := fill_add hfd hx hy
  have frun := run_fb (.inr rfl) hadd
  have H := Lib.hid h
  obtain ⟨a, cap, rfl, _⟩ := id h
  have HS := Lib.hid hs
  have HX := Lib.hid hx
  have HY := Lib.hid hy
  have HZ := Lib.hid hz
  have HIT := Lib.hid hit
  have hmf := hmf
  have hst := fun (W : World) (a : Addr) (m : Mode) => run_store Try.prog W a (.float .f64 z) m rfl
  clear h hs hx hy hz hit hadd hfd hp
  have b1 := (Oc.new w (.complex .f64 x y) 23).alloc (.cells #[.bool false, .pointer none] 31)
  have b3 := Bx.new (w.alloc (.cells #[.complex .f64 x y] 23)) false none
  have hb := (bel0 w (.cells #[.complex .f64 x y] 23)).alloc (by simp) (.cells #[.bool false, .pointer none] 31)
  simp only [asz] at b3
  have hn' : (d = 0) ∨ (1 ≤ (d : Int) ∧ Hid (xs.any (inP f (f + 2 ^ d)) = false)) := by
    rcases hn with hn | ⟨h1, _, h2⟩
    · exact .inl hn
    · exact .inr ⟨by omega, Lib.hid h2⟩
  clear hn
  rcases hn' with rfl | ⟨h1, HA⟩
  all_goals
    go_enter Try.func72, Try.ntmps72
    go_wp2_with fail
    generalize (w.alloc (.cells #[.complex .f64 x y] 23)).alloc (.cells #[.bool false, .pointer none] 31) = w3 at *
    obtain ⟨B, hB⟩ : ∃ B, w.heap.size = B := ⟨_, rfl⟩
    rw [hB] at b1 b3 ⊢
    obtain ⟨C, hC⟩ : ∃ C, B + 1 = C := ⟨_, rfl⟩
    rw [hC] at b3 ⊢
    have c10 := b1.c0
    go_upto_region 4 with (go_at_call 85; (with_reducible refine Calls.mono (contains_at _ (H.out.below hb) HS.out HX.out HY.out hf hd hl HIT.out) ?_); rintro e wn ⟨rfl, hkk⟩; have hb := hb.trans (hkk.mono hb.size); have b1 := b1.below hkk; have b3 := b3.below hkk; clear c10 hkk; have c10 := b1.c0)
    have b5 := Oc.new wn (.float .f64 z) 24
    have b1 := b1.alloc (.cells #[.float .f64 z] 24)
    have b3 := b3.alloc (.cells #[.float .f64 z] 24)
    have hb := hb.alloc hb.size (.cells #[.float .f64 z] 24)
    generalize wn.alloc (.cells #[.float .f64 z] 24) = wz at *
    obtain ⟨E, hE⟩ : ∃ E, wn.heap.size = E := ⟨_, rfl⟩
    rw [hE] at b5 ⊢
    clear c10
    have c10 := b1.c0
    have c30 := b3.c0
    have c31 := b3.c1
    have f30 := b3.f0
    have f31 := b3.f1
    have c50 := b5.c0
    go_wp2_with (first
      | (go_at_call 87; (with_reducible refine Calls.mono (containsF_at _ (H.out.below hb) HS.out HX.out HZ.out c10 c50 hf' ht hl _ HY.out HA.out) ?_); rintro e wn ⟨rfl, hkk⟩; have hb := hb.trans (hkk.mono hb.size); have b1 := b1.below hkk; have b3 := b3.below hkk; have b5 := b5.below hkk; clear c10 c30 c31 f30 f31 c50 hkk; have c10 := b1.c0; have c30 := b3.c0; have c31 := b3.c1; have f30 := b3.f0; have f31 := b3.f1; have c50 := b5.c0)
      | (go_at_call 21; (with_reducible refine Calls.mono (zero_id _) ?_); rintro e wn ⟨rfl, hkk⟩; have hb := hb.trans (hkk.mono hb.size); have b1 := b1.below hkk; have b3 := b3.below hkk; have b5 := b5.below hkk; clear c10 c30 c31 f30 f31 c50 hkk; have c10 := b1.c0; have c30 := b3.c0; have c31 := b3.c1; have f30 := b3.f0; have f31 := b3.f1; have c50 := b5.c0))
    have hf := bput hb (R := C) (by omega) false none
    exact bodyPost_ret (v := .agg #[.bool false, .pointer none]) (by simp [results, go_sem, *]) rfl ⟨_, rfl, rfl, by first | exact hf | (rw [← hB]; exact hf)⟩
theorem fl_halves {f d x y : Nat} (h : f + 2 ^ (d + 1) ≤ 2 ^ 17) (hx : fl f = x) (hy : fl (2 ^ (d + 1)) = y) : ∃ g m, fl (2 ^ d) = g ∧ fl (f + 2 ^ d) = m ∧ floatBits .quo .f64 y 4611686018427387904 = some g ∧ floatBits .add .f64 x g = some m := by
  have e : 2 ^ (d + 1) = 2 * 2 ^ d := by rw [Nat.pow_succ]; omega
  refine ⟨_, _, rfl, rfl, ?_, ?_⟩
  · rw [← hy, e]
    exact fl_half (by omega)
  · rw [← hx]
    exact fl_add (by omega)
set_option maxRecDepth 100000 in
set_option maxHeartbeats 3200000 in
theorem fill_more {d f x y : Nat} {xs : List (Nat × Nat)} {t : T} {v : Value} (w : World) (ih : FillOk d) (hd16 : d + 1 ≤ 16) (hfd : f + 2 ^ (d + 1) ≤ 2 ^ 17) (hs : Sm xs) (hl : xs.length ≤ 1000000) (h : CX w v xs) (hx : fl f = x) (hy : fl (2 ^ (d + 1)) = y) (hit : xs.contains (f, 2 ^ (d + 1)) = false)
    (hn : xs.any (inP f (f + 2 ^ (d + 1))) = true) (ht0 : T.pair (fillT xs d f) (fillT xs d (f + 2 ^ d)) = t) :
    Calls Try.prog 72 #[v, .complex .f64 x y, .int .i64 ((d : Int) + 1)] w fun e w' => ∃ u, e = .returned u ∧ IDV w' t u ∧ Below w.heap.size w w' := by
  have hp := Nat.two_pow_pos (d + 1)
  have e2 : 2 ^ (d + 1) = 2 ^ d + 2 ^ d := by rw [Nat.pow_succ]; omega
  have hf : f < 2 ^ 40 := by omega
  have hd : 2 ^ (d + 1) < 2 ^ 40 := by omega
  have hf' : f < 2 ^ 50 := by omega
  have ht : f + 2 ^ (d + 1) < 2 ^ 50 := by omega
  have hfl : f + 2 ^ d ≤ 2 ^ 17 := by omega
  have hfr : f + 2 ^ d + 2 ^ d ≤ 2 ^ 17 := by omega
  obtain ⟨z, hz, hadd⟩ := fill_add hfd hx hy
  obtain ⟨g, m, hg, hm, hq1, hq2⟩ := fl_halves hfd hx hy
  have frun := run_fb (.inr rfl) hadd
  have H := Lib.hid h
  obtain ⟨a, cap, rfl, _⟩ := id h
  have dl := fill_depth d f xs
  have dr := fill_depth d (f + 2 ^ d) xs
  have hpd := pair_depth (fillT xs d f) (fillT xs d (f + 2 ^ d))
  have HPR := Lib.hid (show pairR (fillT xs d f) (fillT xs d (f + 2 ^ d)) = (t, 0) by
    unfold pairR
    rw [if_pos (by omega), ht0])
  obtain ⟨tl, htl⟩ : ∃ tl, fillT xs d f = tl := ⟨_, rfl⟩
  obtain ⟨tr, htr⟩ : ∃ tr, fillT xs d (f + 2 ^ d) = tr := ⟨_, rfl⟩
  rw [htl, htr] at HPR
  rw [htl] at dl
  rw [htr] at dr
  have dl' : tl.depth ≤ 10000 := by omega
  have dr' : tr.depth ≤ 10000 := by omega
  unfold FillOk at ih
  have IH := Lib.hid ih
  have HTL := Lib.hid htl
  have HTR := Lib.hid htr
  have HS := Lib.hid hs
  have HX := Lib.hid hx
  have HY := Lib.hid hy
  have HZ := Lib.hid hz
  have HG := Lib.hid hg
  have HMM := Lib.hid hm
  have HIT := Lib.hid hit
  have HA := Lib.hid hn
  have HQ1 := Lib.hid hq1
  have HQ2 := Lib.hid hq2
  have hmf := hmf
  have hst := fun (W : World) (a : Addr) (m : Mode) => run_store Try.prog W a (.float .f64 z) m rfl
  have hdi : (d : Int) + 1 ≤ 16 := by omega
  have hd0 : (0 : Int) ≤ (d : Int) := by omega
  clear h hs hx hy hz hg hm hq1 hq2 hit hadd hfd hp hn e2 ht0 hpd dl dr htl htr ih hd16
  have b1 := (Oc.new w (.complex .f64 x y) 23).alloc (.cells #[.bool false, .pointer none] 31)
  have b3 := Bx.new (w.alloc (.cells #[.complex .f64 x y] 23)) false none
  have hb := (bel0 w (.cells #[.complex .f64 x y] 23)).alloc (by simp) (.cells #[.bool false, .pointer none] 31)
  simp only [asz] at b3
  go_enter Try.func72, Try.ntmps72
  go_wp2_with fail
  generalize (w.alloc (.cells #[.complex .f64 x y] 23)).alloc (.cells #[.bool false, .pointer none] 31) = w3 at *
  obtain ⟨B, hB⟩ : ∃ B, w.heap.size = B := ⟨_, rfl⟩
  rw [hB] at b1 b3 ⊢
  obtain ⟨C, hC⟩ : ∃ C, B + 1 = C := ⟨_, rfl⟩
  rw [hC] at b3 ⊢
  have c10 := b1.c0
  go_upto_region 4 with (go_at_call 85; (with_reducible refine Calls.mono (contains_at _ (H.out.below hb) HS.out HX.out HY.out hf hd hl HIT.out) ?_); rintro e wn ⟨rfl, hkk⟩; have hb := hb.trans (hkk.mono hb.size); have b1 := b1.below hkk; have b3 := b3.below hkk; clear c10 hkk; have c10 := b1.c0)
  have b5 := Oc.new wn (.float .f64 z) 24
  have b1 := b1.alloc (.cells #[.float .f64 z] 24)
  have b3 := b3.alloc (.cells #[.float .f64 z] 24)
  have hb := hb.alloc hb.size (.cells #[.float .f64 z] 24)
  generalize wn.alloc (.cells #[.float .f64 z] 24) = wz at *
  obtain ⟨E, hE⟩ : ∃ E, wn.heap.size = E := ⟨_, rfl⟩
  rw [hE] at b5 ⊢
  clear c10
  have c10 := b1.c0
  have c30 := b3.c0
  have c31 := b3.c1
  have f30 := b3.f0
  have f31 := b3.f1
  have c50 := b5.c0
  go_upto_region 9 with (first
    | (go_at_call 87; (with_reducible refine Calls.mono (containsF_at _ (H.out.below hb) HS.out HX.out HZ.out c10 c50 hf' ht hl _ HY.out HA.out) ?_); rintro e wn ⟨rfl, hkk⟩; have hb := hb.trans (hkk.mono hb.size); have b1 := b1.below hkk; have b3 := b3.below hkk; have b5 := b5.below hkk; clear c10 c30 c31 f30 f31 c50; have c10 := b1.c0; have c30 := b3.c0; have c31 := b3.c1; have f30 := b3.f0; have f31 := b3.f1; have c50 := b5.c0; clear hkk)
    | (go_at_call 84; (with_reducible refine Calls.mono (halves_is _ HQ1.out HQ2.out) ?_); rintro e wn ⟨rfl, rfl⟩)
    | (go_at_call 72; (with_reducible refine Calls.mono (IH.out _ _ _ _ _ _ _ hfl HS.out hl (H.out.below hb) HX.out HG.out HTL.out) ?_); rintro e wn ⟨u, rfl, hu, hkk⟩; have hb := hb.trans (hkk.mono hb.size); have b1 := b1.below hkk; have b3 := b3.below hkk; have b5 := b5.below hkk; clear c10 c30 c31 f30 f31 c50; have c10 := b1.c0; have c30 := b3.c0; have c31 := b3.c1; have f30 := b3.f0; have f31 := b3.f1; have c50 := b5.c0; obtain ⟨ol, ql, rfl, _⟩ := hu.shape'; have HL := Lib.hid hu; clear hu hkk)
    | (go_at_call 72; (with_reducible refine Calls.mono (IH.out _ _ _ _ _ _ _ hfr HS.out hl (H.out.below hb) HMM.out HG.out HTR.out) ?_); rintro e wn ⟨u, rfl, hu, hkk⟩; have hb := hb.trans (hkk.mono hb.size); have b1 := b1.below hkk; have b3 := b3.below hkk; have b5 := b5.below hkk; clear c10 c30 c31 f30 f31 c50; have c10 := b1.c0; have c30 := b3.c0; have c31 := b3.c1; have f30 := b3.f0; have f31 := b3.f1; have c50 := b5.c0; obtain ⟨or, qr, rfl, _⟩ := hu.shape'; have HR := Lib.hid hu; have HL := Lib.hid (HL.out.below hkk); clear hu hkk)
    | (go_at_call 26; (with_reducible refine Calls.mono (Pair_is _ HL.out HR.out dl' dr' HPR.out) ?_); rintro e wn ⟨u, rfl, hu, hkk⟩; have hb := hb.trans (hkk.mono hb.size); have b1 := b1.below hkk; have b3 := b3.below hkk; have b5 := b5.below hkk; clear c10 c30 c31 f30 f31 c50; have c10 := b1.c0; have c30 := b3.c0; have c31 := b3.c1; have f30 := b3.f0; have f31 := b3.f1; have c50 := b5.c0; obtain ⟨op, qp, rfl, _⟩ := hu.shape'; have HP := Lib.hid hu; clear hu hkk))
  have b6 := Bx.new wn op qp
  have b3 := b3.alloc (.cells #[.bool op, .pointer qp] 31)
  have HP := Lib.hid (HP.out.alloc (.cells #[.bool op, .pointer qp] 31))
  have hb := hb.alloc hb.size (.cells #[.bool op, .pointer qp] 31)
  generalize wn.alloc (.cells #[.bool op, .pointer qp] 31) = wy at *
  obtain ⟨G, hG⟩ : ∃ G, wn.heap.size = G := ⟨_, rfl⟩
  rw [hG] at b6 ⊢
  clear c10 c30 c31 f30 f31 c50
  have c30 := b3.c0
  have c31 := b3.c1
  have f30 := b3.f0
  have f31 := b3.f1
  have c60 := b6.c0
  have c61 := b6.c1
  go_wp2_with fail
  have hf := bput hb (R := C) (by omega) op qp
  exact bodyPost_ret (v := .agg #[.bool op, .pointer qp]) (by simp [results, go_sem, *]) rfl ⟨_, rfl, HP.out.kp (Kp.put b3 op qp), by first | exact hf | (rw [← hB]; exact hf)⟩
theorem fill_ok : ∀ d, d ≤ 16 → FillOk d
  | 0, _ => by
    intro f xs t v x y w hf hs hl h hx hy ht
    unfold fillT at ht
    have h2 : (2 : Nat) ^ 0 = 1 := rfl
    cases hc : xs.contains (f, 1) with
    | true =>
      rw [if_pos hc] at ht
      subst ht
      exact fill_hit w (by omega) (by omega) hs hl h hx hy hc
    | false =>
      rw [if_neg (by rw [hc]; exact Bool.false_ne_true)] at ht
      subst ht
      exact fill_no w hf hs hl h hx hy hc (.inl rfl)
  | d + 1, hd => by
    intro f xs t v x y w hf hs hl h hx hy ht
    unfold fillT at ht
    have hp := Nat.two_pow_pos (d + 1)
    cases hc : xs.contains (f, 2 ^ (d + 1)) with
    | true =>
      rw [if_pos hc] at ht
      subst ht
      exact fill_hit w (by omega) (by omega) hs hl h hx hy hc
    | false =>
      rw [if_neg (by rw [hc]; exact Bool.false_ne_true)] at ht
      cases hi : inB xs f (2 ^ (d + 1)) with
      | true =>
        rw [if_pos hi] at ht
        rw [Int.natCast_add]
        exact fill_more w (fill_ok d (by omega)) hd hf hs hl h hx hy hc hi ht
      | false =>
        rw [if_neg (by rw [hi]; exact Bool.false_ne_true)] at ht
        subst ht
        exact fill_no w hf hs hl h hx hy hc (.inr ⟨by omega, hd, hi⟩)
theorem sm_spans {t : T} (hd : t.depth ≤ 16) : Sm (spN t 0 65536) := fun c hc => by
  have := sp_in t 16 0 c hd hc
  omega
theorem Spans_at {t : T} {v : Value} (w : World) (h : IDV w t v) (hd : t.depth ≤ 16) (hc : ct t ≤ 65536) : Calls Try.prog 49 #[v] w fun e w' => ∃ u, e = .returned u ∧ CX w' u (spN t 0 65536) ∧ Below w.heap.size w w' := by
  have hsp := spB_is t 16 0 hd (by decide)
  rw [fl_0] at hsp
  have e1 : fl (2 ^ 16) = 4607182418800017408 := fl_one
  rw [e1] at hsp
  refine (Spans_any w h hsp (by rw [List.length_map, len_sp]; omega)).mono ?_
  rintro e w' ⟨u, he, ho, hb⟩
  rw [List.length_map] at ho
  exact ⟨u, he, CX.of ho, hb⟩
set_option maxRecDepth 100000 in
set_option maxHeartbeats 1600000 in
theorem Of_any {t : T} {v : Value} (w : World) (n : t.norm = true) (hd : t.depth ≤ 16) (h : CX w v (spN t 0 65536)) : Calls Try.prog 50 #[v] w fun e w' => ∃ u, e = .returned (.tuple #[u, .int .i64 0]) ∧ IDV w' t u ∧ Below w.heap.size w w' := by
  have hc := ct_small hd
  have hl : (spN t 0 65536).length ≤ 1000000 := by rw [len_sp]; omega
  have HS := Lib.hid (sm_spans hd)
  have HF := Lib.hid (fill_spans hd n)
  have IH := fill_ok 16 (by omega)
  unfold FillOk at IH
  have IH := Lib.hid IH
  have e0 := Lib.hid fl_0
  have e1 := Lib.hid (show fl (2 ^ 16) = 4607182418800017408 from fl_one)
  obtain ⟨L, hL⟩ : ∃ L, spN t 0 65536 = L := ⟨_, rfl⟩
  have HL := Lib.hid hL
  rw [hL] at h hl HS HF
  have H := Lib.hid h
  obtain ⟨a, cap, rfl, _⟩ := id h
  clear h hL
  have b3 := Bx.new w false none
  have hb := bel0 w (.cells #[.bool false, .pointer none] 31)
  go_enter Try.func50, Try.ntmps50
  go_wp2_with fail
  generalize w.alloc (.cells #[.bool false, .pointer none] 31) = w3 at *
  obtain ⟨C, hC⟩ : ∃ C, w.heap.size = C := ⟨_, rfl⟩
  rw [hC] at b3 ⊢
  go_upto_region 2 with (go_at_call 72; (refine Calls.mono (IH.out 0 L t _ _ _ _ (by decide) HS.out hl (H.out.below hb) e0.out e1.out HF.out) ?_); rintro e wn ⟨u, rfl, hu, hkk⟩; have hb := hb.trans (hkk.mono hb.size); have b3 := b3.below hkk; obtain ⟨o, q, rfl, _⟩ := hu.shape'; have HI := Lib.hid hu; clear hu hkk)
  have b4 := Bx.new wn o q
  have b3 := b3.alloc (.cells #[.bool o, .pointer q] 31)
  have HI := Lib.hid (HI.out.alloc (.cells #[.bool o, .pointer q] 31))
  have hb := hb.alloc hb.size (.cells #[.bool o, .pointer q] 31)
  generalize wn.alloc (.cells #[.bool o, .pointer q] 31) = wz at *
  obtain ⟨D, hD⟩ : ∃ D, wn.heap.size = D := ⟨_, rfl⟩
  rw [hD] at b4 ⊢
  have c30 := b3.c0
  have c31 := b3.c1
  have f30 := b3.f0
  have f31 := b3.f1
  have c40 := b4.c0
  have c41 := b4.c1
  go_wp2_with (first
    | (go_at_call 49; (refine Calls.mono (Spans_at _ HI.out hd hc) ?_); rintro e wn ⟨u, rfl, hu, hkk⟩; rw [HL.out] at hu; obtain ⟨a2, cap2, rfl, _⟩ := id hu; have HU := Lib.hid hu; have hb := hb.trans (hkk.mono hb.size); have b3 := b3.below hkk; have b4 := b4.below hkk; have HI := Lib.hid (HI.out.below hkk); clear hu c30 c31 f30 f31 c40 c41 hkk; have c30 := b3.c0; have c31 := b3.c1; have f30 := b3.f0; have f31 := b3.f1; have c40 := b4.c0; have c41 := b4.c1)
    | (go_at_call 73; (refine Calls.mono (equal_any _ HU.out (H.out.below hb) HS.out hl) ?_); rintro e wn ⟨rfl, hkk⟩; have hb := hb.trans (hkk.mono hb.size); have b3 := b3.below hkk; have b4 := b4.below hkk; have HI := Lib.hid (HI.out.below hkk); clear c30 c31 f30 f31 c40 c41 hkk; have c30 := b3.c0; have c31 := b3.c1; have f30 := b3.f0; have f31 := b3.f1; have c40 := b4.c0; have c41 := b4.c1))
  have hf := bput hb (R := C) (by omega) o q
  exact bodyPost_ret (v := .tuple #[.agg #[.bool o, .pointer q], .int .i64 0]) (by simp [results, go_sem, *]) rfl ⟨_, rfl, HI.out.kp (Kp.put b3 o q), by first | exact hf | (rw [← hC]; exact hf)⟩
end Go.Proofs.Ytigkjmfkpmehlaa
