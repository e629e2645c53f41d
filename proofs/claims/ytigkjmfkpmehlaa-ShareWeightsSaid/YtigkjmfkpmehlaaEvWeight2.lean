/- share.weight, Weight. (Printed by wip/ids/evweight2.py.) -/
import Derived.Test.YtigkjmfkpmehlaaEvWeight
namespace Go.Proofs.Ytigkjmfkpmehlaa
open Go.RowKit

theorem run_fm {x y r : Nat} (h : floatBits .mul .f64 x y = some r) (w : World) : (binOp .mul 24 (.float .f64 x) (.float .f64 y)).run Try.prog w = .ok (.float .f64 r) w := by
  have := run_floatArith (P := Try.prog) w h
  simpa [binOp] using this
theorem fl_mul {a b : Nat} (ha : a ≤ 1048576) (hb : b ≤ 65536) : floatBits .mul .f64 (floatOfInt .f64 (a : Int)) (fl b) = some (fl (a * b)) := by
  rw [fl_int (by omega)]
  have h1 : 65536 * a * b ≤ 65536 * 1048576 * 65536 := Nat.mul_le_mul (by omega) hb
  have h2 : a * b ≤ 1048576 * 65536 := Nat.mul_le_mul ha hb
  have h := FL_mul (a := 65536 * a) (b := b) (p := -16) (q := -16) (by omega) (by omega) (by omega) (by decide) (by decide) (by decide) (by decide)
  have k := FL_scale (n := a * b) (by omega) (p := -16) (by decide) (by decide) 16
  rw [show (65536 * a * b) = a * b * 2 ^ 16 by rw [Nat.mul_comm 65536 a, Nat.mul_assoc, Nat.mul_comm 65536 b, ← Nat.mul_assoc]] at h
  rw [show ((-16 : Int) + -16) = -16 - ((16 : Nat) : Int) by decide, k] at h
  exact h
theorem ret_fu {x y : Nat} {b d : Int} (h : x = y) (k : b = d) : Ending.returned (.tuple #[.float .f64 x, .int .u64 b]) = .returned (.tuple #[.float .f64 y, .int .u64 d]) := by rw [h, k]
def PwOk (d : Nat) : Prop := ∀ (e : Ev) (i : T) (v u : Value) (B X S Y R : Nat) (K : Int) (w : World), e.depth ≤ d → i.depth ≤ d → e.top + B ≤ 1048576 → fl (2 ^ d) = X → wS d (e.add B) i = S → fl S = Y → wT d (e.add B) i = R → K = (B : Int) → EVV w e v → IDV w i u →
  Calls Try.prog 78 #[v, u, .int .u64 K, .float .f64 X] w fun x w' => x = .returned (.tuple #[.float .f64 Y, .int .u64 (R : Int)]) ∧ Below w.heap.size w w'
set_option maxRecDepth 100000 in
set_option maxHeartbeats 1600000 in
theorem pw_z {e : Ev} {v u : Value} {K : Int} {X : Nat} (w : World) (he : EVV w e v) (h : IDV w .z u) : Calls Try.prog 78 #[v, u, .int .u64 K, .float .f64 X] w fun x w' => x = .returned (.tuple #[.float .f64 0, .int .u64 0]) ∧ Below w.heap.size w w' := by
  obtain ⟨pe, rfl, _⟩ := he.shape
  obtain ⟨o, q, rfl, _⟩ := h.shape'
  have HZ := Lib.hid (fun (wx : World) (hb : Below w.heap.size w wx) => isZero_is wx (h.below hb) (rfl : _ = true))
  generalize e.base = A at *
  clear he h
  have b1 := (EB.new w A pe).alloc (.cells #[.bool o, .pointer q] 31)
  have b2 := Bx.new (w.alloc (.cells #[.int .u64 (A : Int), .pointer pe] 77)) o q
  have hb := (bel0 w (.cells #[.int .u64 (A : Int), .pointer pe] 77)).alloc (by simp) (.cells #[.bool o, .pointer q] 31)
  simp only [asz] at b2
  go_enter Try.func78, Try.ntmps78
  go_upto_region 1 with (fail)
  generalize (w.alloc (.cells #[.int .u64 (A : Int), .pointer pe] 77)).alloc (.cells #[.bool o, .pointer q] 31) = w3 at *
  obtain ⟨X1, e1⟩ : ∃ X, w.heap.size = X := ⟨_, rfl⟩
  rw [e1] at b1 b2 ⊢
  obtain ⟨X2, e2⟩ : ∃ X, X1 + 1 = X := ⟨_, rfl⟩
  rw [e2] at b2 ⊢
  have c10 := b1.c0
  have c11 := b1.c1
  have c20 := b2.c0
  have c21 := b2.c1
  go_wp2_with ((go_at_call 24; (with_reducible refine Calls.mono (HZ.out _ hb) ?_); rintro x wn ⟨rfl, hkk⟩; have hb := hb.trans (hkk.mono hb.size); have b1 := b1.below hkk; have b2 := b2.below hkk; clear c10 c11 c20 c21 hkk; have c10 := b1.c0; have c11 := b1.c1; have c20 := b2.c0; have c21 := b2.c1))
  exact bodyPost_ret (v := .tuple #[.float .f64 0, .int .u64 0]) (by simp [results, go_sem, *]) rfl ⟨rfl, hb⟩
set_option maxRecDepth 100000 in
set_option maxHeartbeats 1600000 in
theorem pw_o {n B X Y k : Nat} {v u : Value} {K : Int} (w : World) (he : EVV w (.lf n) v) (h : IDV w .o u) (hK : K = (B : Int)) (hn : B + n = k) (hk : k < 1000000000) (hm : floatBits .mul .f64 (floatOfInt .f64 (k : Int)) X = some Y) :
    Calls Try.prog 78 #[v, u, .int .u64 K, .float .f64 X] w fun x w' => x = .returned (.tuple #[.float .f64 Y, .int .u64 (k : Int)]) ∧ Below w.heap.size w w' := by
  subst hK
  have HZ := Lib.hid (fun (wx : World) (hb : Below w.heap.size w wx) => isZero_is wx (h.below hb) (rfl : _ = false))
  have HO := Lib.hid (fun (wx : World) (hb : Below w.heap.size w wx) => isOne_is wx (h.below hb) (rfl : _ = true))
  have HBS := Lib.hid (fun (wx : World) (hb : Below w.heap.size w wx) => ebase_is wx (he.below hb) (rfl : _ = n))
  have HLF := Lib.hid (fun (wx : World) (hb : Below w.heap.size w wx) => eleaf_is wx (he.below hb) (rfl : _ = true))
  obtain ⟨pe, hpe⟩ : ∃ pe : Option Addr, pe = none := ⟨_, rfl⟩
  obtain ⟨A, hA⟩ : ∃ A, A = n := ⟨_, rfl⟩
  have hv : v = .agg #[.int .u64 (A : Int), .pointer pe] := by rw [hA, hpe]; exact he
  subst hv
  obtain ⟨o, q, rfl, _⟩ := h.shape'
  rw [← hA] at HBS
  have s1 : IntKind.u64.wrap ((B : Int) + (A : Int)) = (k : Int) := by rw [u64_in (by omega) (by omega)]; omega
  obtain ⟨y, hy⟩ : ∃ y, floatOfInt .f64 (k : Int) = y := ⟨_, rfl⟩
  rw [hy] at hm
  have fm := run_fm hm
  clear he h hn hk hm hA hpe
  have b1 := (EB.new w A pe).alloc (.cells #[.bool o, .pointer q] 31)
  have b2 := Bx.new (w.alloc (.cells #[.int .u64 (A : Int), .pointer pe] 77)) o q
  have hb := (bel0 w (.cells #[.int .u64 (A : Int), .pointer pe] 77)).alloc (by simp) (.cells #[.bool o, .pointer q] 31)
  simp only [asz] at b2
  go_enter Try.func78, Try.ntmps78
  go_upto_region 1 with (fail)
  generalize (w.alloc (.cells #[.int .u64 (A : Int), .pointer pe] 77)).alloc (.cells #[.bool o, .pointer q] 31) = w3 at *
  obtain ⟨X1, e1⟩ : ∃ X, w.heap.size = X := ⟨_, rfl⟩
  rw [e1] at b1 b2 ⊢
  obtain ⟨X2, e2⟩ : ∃ X, X1 + 1 = X := ⟨_, rfl⟩
  rw [e2] at b2 ⊢
  have c10 := b1.c0
  have c11 := b1.c1
  have c20 := b2.c0
  have c21 := b2.c1
  go_wp2_with (first
    | (go_at_call 24; (with_reducible refine Calls.mono (HZ.out _ hb) ?_); rintro x wn ⟨rfl, hkk⟩; have hb := hb.trans (hkk.mono hb.size); have b1 := b1.below hkk; have b2 := b2.below hkk; clear c10 c11 c20 c21 hkk; have c10 := b1.c0; have c11 := b1.c1; have c20 := b2.c0; have c21 := b2.c1)
    | (go_at_call 25; (with_reducible refine Calls.mono (HO.out _ hb) ?_); rintro x wn ⟨rfl, hkk⟩; have hb := hb.trans (hkk.mono hb.size); have b1 := b1.below hkk; have b2 := b2.below hkk; clear c10 c11 c20 c21 hkk; have c10 := b1.c0; have c11 := b1.c1; have c20 := b2.c0; have c21 := b2.c1)
    | (go_at_call 91; (with_reducible refine Calls.mono (HBS.out _ hb) ?_); rintro x wn ⟨rfl, hkk⟩; have hb := hb.trans (hkk.mono hb.size); have b1 := b1.below hkk; have b2 := b2.below hkk; clear c10 c11 c20 c21 hkk; have c10 := b1.c0; have c11 := b1.c1; have c20 := b2.c0; have c21 := b2.c1)
    | (go_at_call 92; (with_reducible refine Calls.mono (HLF.out _ hb) ?_); rintro x wn ⟨rfl, hkk⟩; have hb := hb.trans (hkk.mono hb.size); have b1 := b1.below hkk; have b2 := b2.below hkk; clear c10 c11 c20 c21 hkk; have c10 := b1.c0; have c11 := b1.c1; have c20 := b2.c0; have c21 := b2.c1))
  exact bodyPost_ret (v := .tuple #[.float .f64 Y, .int .u64 (k : Int)]) (by simp [results, go_sem, *]) rfl ⟨rfl, hb⟩
set_option maxRecDepth 100000 in
set_option maxHeartbeats 6400000 in
theorem pw_more {d : Nat} {e : Ev} {i : T} {v u : Value} {B X S Y R : Nat} {K : Int} (w : World) (ih : PwOk d) (hd : d + 1 ≤ 16) (de : e.depth ≤ d + 1) (di : i.depth ≤ d + 1) (he : e.top + B ≤ 1048576) (hX : fl (2 ^ (d + 1)) = X) (hS : wS (d + 1) (e.add B) i = S) (hY : fl S = Y) (hR : wT (d + 1) (e.add B) i = R) (hK : K = (B : Int)) (hv : EVV w e v) (hu : IDV w i u)
    (hno : (i.isO = true ∧ e.isL = false) ∨ (∃ x y, i = .n x y)) :
    Calls Try.prog 78 #[v, u, .int .u64 K, .float .f64 X] w fun x w' => x = .returned (.tuple #[.float .f64 Y, .int .u64 (R : Int)]) ∧ Below w.heap.size w w' := by
  subst hK
  have hp := Nat.two_pow_pos d
  have hp16 : 2 ^ d ≤ 2 ^ 15 := Nat.pow_le_pow_right (by omega) (by omega)
  have e2 : 2 ^ (d + 1) = 2 * 2 ^ d := by rw [Nat.pow_succ]; omega
  rw [wS_half] at hS
  rw [wT_half] at hR
  have de' : (e.add B).depth ≤ d + 1 := by rw [Ev.add_depth]; exact de
  have ld := Ev.left_depth de'
  have li := left_depth di
  have lt := Ev.left_top (e.add B)
  have al := add_left e B
  have tt := Ev.add_top e B
  have bt := Ev.base_top e
  have bA := wS_le d (e.add B).left i.left
  have bB := wS_le d (e.add B).right i.right
  have bA' : (e.add B).left.top * 2 ^ d ≤ 1048576 * 2 ^ 15 := Nat.mul_le_mul (by omega) hp16
  have bB' : (e.add B).right.top * 2 ^ d ≤ 1048576 * 2 ^ 15 := Nat.mul_le_mul (by omega) hp16
  rw [al.1, al.2] at hS hR lt
  rw [al.1] at bA bA' ld
  rw [al.2] at bB bB' ld
  rw [Ev.add_depth, Ev.add_depth] at ld
  simp only [Ev.add_top] at lt
  obtain ⟨SA, hSA⟩ : ∃ n, wS d (e.pl.add (B + e.base)) i.left = n := ⟨_, rfl⟩
  obtain ⟨SB, hSB⟩ : ∃ n, wS d (e.pr.add (B + e.base)) i.right = n := ⟨_, rfl⟩
  obtain ⟨TA, hTA⟩ : ∃ n, wT d (e.pl.add (B + e.base)) i.left = n := ⟨_, rfl⟩
  obtain ⟨TB, hTB⟩ : ∃ n, wT d (e.pr.add (B + e.base)) i.right = n := ⟨_, rfl⟩
  rw [hSA, hSB] at hS
  rw [hTA, hTB] at hR
  rw [hSA] at bA
  rw [hSB] at bB
  obtain ⟨ga, hga⟩ : ∃ x, fl SA = x := ⟨_, rfl⟩
  obtain ⟨gb, hgb⟩ : ∃ x, fl SB = x := ⟨_, rfl⟩
  obtain ⟨gd, hgd⟩ : ∃ x, fl (2 ^ d) = x := ⟨_, rfl⟩
  have hq : floatBits .quo .f64 X 4611686018427387904 = some gd := by
    rw [← hX, e2, ← hgd]
    exact fl_half (by omega)
  have ha : floatBits .add .f64 ga gb = some Y := by
    rw [← hga, ← hgb, ← hY, ← hS]
    exact fl_add (by omega)
  have fq := run_fb (.inl rfl) hq
  have fa := run_fb (.inr rfl) ha
  obtain ⟨A, hA⟩ : ∃ A, e.base = A := ⟨_, rfl⟩
  obtain ⟨k, hk⟩ : ∃ k, B + A = k := ⟨_, rfl⟩
  rw [hA, hk] at hSA hSB hTA hTB lt
  rw [hA] at bt
  have IL := Lib.hid (fun (v u : Value) (wx : World) (h1 : EVV wx e.pl v) (h2 : IDV wx i.left u) => ih e.pl i.left v u k gd SA ga TA (k : Int) wx ld.1 li.1 (by omega) hgd hSA hga hTA rfl h1 h2)
  have IR := Lib.hid (fun (v u : Value) (wx : World) (h1 : EVV wx e.pr v) (h2 : IDV wx i.right u) => ih e.pr i.right v u k gd SB gb TB (k : Int) wx ld.2 li.2 (by omega) hgd hSB hgb hTB rfl h1 h2)
  have HEL := Lib.hid (fun (wx : World) (hb : Below w.heap.size w wx) => eleft_is wx (hv.below hb) rfl)
  have HER := Lib.hid (fun (wx : World) (hb : Below w.heap.size w wx) => eright_is wx (hv.below hb) rfl)
  have HTL := Lib.hid (fun (wx : World) (hb : Below w.heap.size w wx) => left_any wx (hu.below hb))
  have HTR := Lib.hid (fun (wx : World) (hb : Below w.heap.size w wx) => right_any wx (hu.below hb))
  have hiz : i.isZ = false := by
    rcases hno with ⟨h1, _⟩ | ⟨x, y, rfl⟩
    · cases i <;> simp_all [T.isO, T.isZ]
    · rfl
  have HZ := Lib.hid (fun (wx : World) (hb : Below w.heap.size w wx) => isZero_is wx (hu.below hb) hiz)
  have HBS := Lib.hid (fun (wx : World) (hb : Below w.heap.size w wx) => ebase_is wx (hv.below hb) hA)
  have hno' : (Hid (i.isO = true) ∧ Hid (e.isL = false)) ∨ Hid (i.isO = false) := by
    rcases hno with ⟨h1, h2⟩ | ⟨x, y, rfl⟩
    · exact .inl ⟨Lib.hid h1, Lib.hid h2⟩
    · exact .inr (Lib.hid rfl)
  have HO := Lib.hid (fun (b : Bool) (hb' : i.isO = b) (wx : World) (hb : Below w.heap.size w wx) => isOne_is wx (hu.below hb) hb')
  have HLF := Lib.hid (fun (b : Bool) (hb' : e.isL = b) (wx : World) (hb : Below w.heap.size w wx) => eleaf_is wx (hv.below hb) hb')
  have s1 : IntKind.u64.wrap ((B : Int) + (A : Int)) = (k : Int) := by rw [u64_in (by omega) (by omega)]; omega
  have hcmp : ((TA : Int) < (TB : Int) ∧ Hid ((TB : Int) = (R : Int))) ∨ (¬ (TA : Int) < (TB : Int) ∧ Hid ((TA : Int) = (R : Int))) := by
    have e : Nat.max TA TB = max TA TB := rfl
    by_cases h : TA < TB
    · exact .inl ⟨by omega, Lib.hid (by omega)⟩
    · exact .inr ⟨by omega, Lib.hid (by omega)⟩
  obtain ⟨pe, rfl, _⟩ := hv.shape
  obtain ⟨o, q, rfl, _⟩ := hu.shape'
  rw [hA] at HEL HER HBS HLF ⊢
  clear hp hp16 e2 hS hR de' ld li lt al tt bt bA bB bA' bB' hSA hSB hTA hTB hga hgb hgd hq ha hk hno hv hu ih de di he hA hX hY hiz
  have b1 := (EB.new w A pe).alloc (.cells #[.bool o, .pointer q] 31)
  have b2 := Bx.new (w.alloc (.cells #[.int .u64 (A : Int), .pointer pe] 77)) o q
  have hb := (bel0 w (.cells #[.int .u64 (A : Int), .pointer pe] 77)).alloc (by simp) (.cells #[.bool o, .pointer q] 31)
  simp only [asz] at b2
  go_enter Try.func78, Try.ntmps78
  go_upto_region 1 with (fail)
  generalize (w.alloc (.cells #[.int .u64 (A : Int), .pointer pe] 77)).alloc (.cells #[.bool o, .pointer q] 31) = w3 at *
  obtain ⟨X1, e1⟩ : ∃ X, w.heap.size = X := ⟨_, rfl⟩
  rw [e1] at b1 b2 ⊢
  obtain ⟨X2, e2⟩ : ∃ X, X1 + 1 = X := ⟨_, rfl⟩
  rw [e2] at b2 ⊢
  have c10 := b1.c0
  have c11 := b1.c1
  have c20 := b2.c0
  have c21 := b2.c1
  rcases hno' with ⟨H1, H2⟩ | H1
  all_goals
    go_upto_region 6 with (first
      | (go_at_call 24; (with_reducible refine Calls.mono (HZ.out _ hb) ?_); rintro x wn ⟨rfl, hkk⟩; have hb := hb.trans (hkk.mono hb.size); have b1 := b1.below hkk; have b2 := b2.below hkk; clear c10 c11 c20 c21 hkk; have c10 := b1.c0; have c11 := b1.c1; have c20 := b2.c0; have c21 := b2.c1)
      | (go_at_call 25; (with_reducible refine Calls.mono (HO.out _ H1.out _ hb) ?_); rintro x wn ⟨rfl, hkk⟩; have hb := hb.trans (hkk.mono hb.size); have b1 := b1.below hkk; have b2 := b2.below hkk; clear c10 c11 c20 c21 hkk; have c10 := b1.c0; have c11 := b1.c1; have c20 := b2.c0; have c21 := b2.c1)
      | (go_at_call 91; (with_reducible refine Calls.mono (HBS.out _ hb) ?_); rintro x wn ⟨rfl, hkk⟩; have hb := hb.trans (hkk.mono hb.size); have b1 := b1.below hkk; have b2 := b2.below hkk; clear c10 c11 c20 c21 hkk; have c10 := b1.c0; have c11 := b1.c1; have c20 := b2.c0; have c21 := b2.c1)
      | (go_at_call 92; (with_reducible refine Calls.mono (HLF.out _ H2.out _ hb) ?_); rintro x wn ⟨rfl, hkk⟩; have hb := hb.trans (hkk.mono hb.size); have b1 := b1.below hkk; have b2 := b2.below hkk; clear c10 c11 c20 c21 hkk; have c10 := b1.c0; have c11 := b1.c1; have c20 := b2.c0; have c21 := b2.c1))
    have hb := bdrew hb
    have b1 := b1.drew
    have b2 := b2.drew
    clear c10 c11 c20 c21
    go_region_held3 (fun w' => (w'.cell? ⟨X1, 0, none⟩ = some (.int .u64 (A : Int)) ∧ w'.cell? ⟨X1, 1, none⟩ = some (.pointer pe)) ∧ w'.cell? ⟨X2, 0, none⟩ = some (.bool o) ∧ w'.cell? ⟨X2, 1, none⟩ = some (.pointer q)) (exact ⟨⟨b1.c0, b1.c1⟩, b2.c0, b2.c1⟩)
      (first
        | (go_at_call 93; (with_reducible refine Calls.mono (HEL.out _ hb) ?_); rintro x wn ⟨u1, rfl, hv, hkk⟩; obtain ⟨pe1, rfl, _⟩ := hv.shape; have hb := hb.trans (hkk.mono hb.size); have b1 := b1.below hkk; have b2 := b2.below hkk; have HE1 := Lib.hid hv; clear hv hkk)
        | (go_at_call 32; (with_reducible refine Calls.mono (HTL.out _ hb) ?_); rintro x wn ⟨u2, rfl, hv, hkk⟩; obtain ⟨oo1, qq1, rfl, _⟩ := hv.shape'; have hb := hb.trans (hkk.mono hb.size); have b1 := b1.below hkk; have b2 := b2.below hkk; have HE1 := Lib.hid (HE1.out.below hkk); have HT1 := Lib.hid hv; clear hv hkk)
        | (go_at_call 78; (with_reducible refine Calls.mono (IL.out _ _ _ HE1.out HT1.out) ?_); rintro x wn ⟨rfl, hkk⟩; have hb := hb.trans (hkk.mono hb.size); have b1 := b1.below hkk; have b2 := b2.below hkk; clear hkk))
    go_upto_region 7 with (fail)
    have c10 := b1.c0
    have c11 := b1.c1
    have c20 := b2.c0
    have c21 := b2.c1
    have hb := bdrew hb
    have b1 := b1.drew
    have b2 := b2.drew
    clear c10 c11 c20 c21
    go_region_held3 (fun w' => (w'.cell? ⟨X1, 0, none⟩ = some (.int .u64 (A : Int)) ∧ w'.cell? ⟨X1, 1, none⟩ = some (.pointer pe)) ∧ w'.cell? ⟨X2, 0, none⟩ = some (.bool o) ∧ w'.cell? ⟨X2, 1, none⟩ = some (.pointer q)) (exact ⟨⟨b1.c0, b1.c1⟩, b2.c0, b2.c1⟩)
      (first
        | (go_at_call 94; (with_reducible refine Calls.mono (HER.out _ hb) ?_); rintro x wn ⟨u1, rfl, hv, hkk⟩; obtain ⟨pe2, rfl, _⟩ := hv.shape; have hb := hb.trans (hkk.mono hb.size); have b1 := b1.below hkk; have b2 := b2.below hkk; have HE2 := Lib.hid hv; clear hv hkk)
        | (go_at_call 33; (with_reducible refine Calls.mono (HTR.out _ hb) ?_); rintro x wn ⟨u2, rfl, hv, hkk⟩; obtain ⟨oo2, qq2, rfl, _⟩ := hv.shape'; have hb := hb.trans (hkk.mono hb.size); have b1 := b1.below hkk; have b2 := b2.below hkk; have HE2 := Lib.hid (HE2.out.below hkk); have HT2 := Lib.hid hv; clear hv hkk)
        | (go_at_call 78; (with_reducible refine Calls.mono (IR.out _ _ _ HE2.out HT2.out) ?_); rintro x wn ⟨rfl, hkk⟩; have hb := hb.trans (hkk.mono hb.size); have b1 := b1.below hkk; have b2 := b2.below hkk; clear hkk))
    rcases hcmp with ⟨hlt, HRR⟩ | ⟨hlt, HRR⟩
    · go_wp2_with fail
      exact bodyPost_ret (v := .tuple #[.float .f64 Y, .int .u64 (TB : Int)]) (by simp [results, go_sem, *]) rfl ⟨ret_fu rfl HRR.out, hb⟩
    · go_wp2_with fail
      exact bodyPost_ret (v := .tuple #[.float .f64 Y, .int .u64 (TA : Int)]) (by simp [results, go_sem, *]) rfl ⟨ret_fu rfl HRR.out, hb⟩
theorem pw_ok : ∀ d, d ≤ 16 → PwOk d
  | 0, _ => by
    intro e i v u B X S Y R K w de di he hX hS hY hR hK hv hu
    cases i with
    | z =>
      rw [wS_z] at hS
      rw [wT_z] at hR
      subst hS
      subst hR
      rw [fl_0] at hY
      subst hY
      exact pw_z w hv hu
    | o =>
      cases e with
      | lf n =>
        simp only [Ev.top] at he
        simp only [Ev.add] at hS hR
        rw [wS_o] at hS
        rw [wT_o] at hR
        have h16 : (2 : Nat) ^ 0 ≤ 65536 := by decide
        have hm := fl_mul (a := R) (b := 2 ^ 0) (by omega) h16
        rw [hX] at hm
        rw [hR] at hS
        rw [hS, hY] at hm
        exact pw_o w hv hu hK (by omega) (by omega) hm
      | nd n x y => simp [Ev.depth] at de
    | n l r => simp [T.depth] at di
  | d + 1, hd => by
    intro e i v u B X S Y R K w de di he hX hS hY hR hK hv hu
    cases i with
    | z =>
      rw [wS_z] at hS
      rw [wT_z] at hR
      subst hS
      subst hR
      rw [fl_0] at hY
      subst hY
      exact pw_z w hv hu
    | o =>
      cases e with
      | lf n =>
        simp only [Ev.top] at he
        simp only [Ev.add] at hS hR
        rw [wS_o] at hS
        rw [wT_o] at hR
        have h16 : (2 : Nat) ^ (d + 1) ≤ 2 ^ 16 := Nat.pow_le_pow_right (by omega) hd
        have hm := fl_mul (a := R) (b := 2 ^ (d + 1)) (by omega) h16
        rw [hX] at hm
        rw [hR] at hS
        rw [hS, hY] at hm
        exact pw_o w hv hu hK (by omega) (by omega) hm
      | nd n x y => exact pw_more w (pw_ok d (by omega)) hd de di he hX hS hY hR hK hv hu (.inl ⟨rfl, rfl⟩)
    | n l r => exact pw_more w (pw_ok d (by omega)) hd de di he hX hS hY hR hK hv hu (.inr ⟨_, _, rfl⟩)
set_option maxRecDepth 100000 in
set_option maxHeartbeats 1600000 in
/-- share.Weight. -/
theorem Weight_at {e : Ev} {i : T} {v u : Value} {x y : Nat} (w : World) (hv : EVV w e v) (hu : IDV w i u) (de : e.depth ≤ 16) (di : i.depth ≤ 16) (he : e.top ≤ 1048576) (hx : fl (wS 16 e i) = x) (hy : fl (65536 * wT 16 e i) = y) :
    Calls Try.prog 53 #[v, u] w fun r w' => r = .returned (.complex .f64 x y) ∧ Below w.heap.size w w' := by
  have a0 : e.add 0 = e := by cases e <;> rfl
  have hle := wT_le 16 e i
  have e1 : fl (2 ^ 16) = 4607182418800017408 := fl_one
  have hfi := fl_int (n := wT 16 e i) (by omega)
  rw [hy] at hfi
  have HW := Lib.hid (fun (wx : World) (hb : Below w.heap.size w wx) => pw_ok 16 (by omega) e i v u 0 4607182418800017408 (wS 16 e i) x (wT 16 e i) 0 wx de di he e1 (by rw [a0]) hx (by rw [a0]) rfl (hv.below hb) (hu.below hb))
  obtain ⟨pe, rfl, _⟩ := hv.shape
  obtain ⟨o, q, rfl, _⟩ := hu.shape'
  obtain ⟨A, hA⟩ : ∃ A, e.base = A := ⟨_, rfl⟩
  rw [hA] at HW ⊢
  obtain ⟨R, hR⟩ : ∃ n, wT 16 e i = n := ⟨_, rfl⟩
  rw [hR] at HW hfi
  clear a0 hle e1 hv hu de di he hx hy hA hR
  have hb := (bel0 w (.cells #[.int .u64 (A : Int), .pointer pe] 77)).alloc (by simp) (.cells #[.bool o, .pointer q] 31)
  go_enter Try.func53, Try.ntmps53
  go_wp2_with (go_at_call 78; (with_reducible refine Calls.mono (HW.out _ hb) ?_); rintro r wn ⟨rfl, hkk⟩; have hb := hb.trans (hkk.mono hb.size); clear hkk)
  go_ret
  exact ⟨rfl, hb⟩
end Go.Proofs.Ytigkjmfkpmehlaa
