/- The plain law of the spans: how wide they are, how many; what Measure comes to. -/
import Derived.Test.YtigkjmfkpmehlaaFl
import Derived.Test.YtigkjmfkpmehlaaSem
namespace Go.Proofs.Ytigkjmfkpmehlaa
open Go.RowKit

/-- So many of the least parts. -/
def fl (n : Nat) : Nat := FL n (-16)
theorem fl_add {a b : Nat} (h : a + b < 2 ^ 53) : floatBits .add .f64 (fl a) (fl b) = some (fl (a + b)) := FL_add h (by decide) (by decide)
theorem fl_half {a : Nat} (h : a < 2 ^ 52) : floatBits .quo .f64 (fl (2 * a)) 4611686018427387904 = some (fl a) := by
  have h1 := FL_div (a := 2 * a) (by omega) (p := -16) (by decide) (by decide) (s := 1) (by decide) (y := 4611686018427387904) (by decide)
  have h2 := FL_scale (n := a) (by omega) (p := -16) (by decide) (by decide) 1
  have e : (FL (2 * a) (-16 - ((1 : Nat) : Int))) = fl a := by
    unfold fl
    rw [← h2, Nat.pow_one, Nat.mul_comm]
  rw [e] at h1
  exact h1
theorem fl_parts {n : Nat} (h : n < 2 ^ 53) : floatBits .quo .f64 (floatOfInt .f64 (n : Int)) 4679240012837945344 = some (fl n) := by
  have h1 := FL_div (a := n) h (p := 0) (by decide) (by decide) (s := 16) (by decide) (y := 4679240012837945344) (by decide)
  have e : floatOfInt .f64 (n : Int) = FL n 0 := by
    unfold floatOfInt FloatKind.nearest FloatKind.encode
    show Ieee.Format.nearest Ieee.double (decide ((n : Int) < 0)) (n : Int).natAbs 0 = _
    rw [decide_eq_false (by omega), Int.natAbs_natCast]
    rfl
  rw [e]
  exact h1
theorem fl_int {n : Nat} (h : n < 2 ^ 37) : floatOfInt .f64 (n : Int) = fl (65536 * n) := by
  have e : floatOfInt .f64 (n : Int) = FL n 0 := by
    unfold floatOfInt FloatKind.nearest FloatKind.encode
    show Ieee.Format.nearest Ieee.double (decide ((n : Int) < 0)) (n : Int).natAbs 0 = _
    rw [decide_eq_false (by omega), Int.natAbs_natCast]
    rfl
  have h2 := FL_scale (n := n) (by omega) (p := 0) (by decide) (by decide) 16
  rw [e, ← h2]
  unfold fl
  rw [Nat.mul_comm]
  rfl
theorem fl_order {a b : Nat} (ha : a < 2 ^ 53) (hb : b < 2 ^ 53) : FloatKind.f64.format.order (fl a) (fl b) = some (compare a b) := FL_order ha hb (by decide) (by decide)
theorem fl_eq {a b : Nat} (ha : a < 2 ^ 53) (hb : b < 2 ^ 53) : (FloatKind.f64.format.order (fl a) (fl b) == some .eq) = decide (a = b) := by
  rw [fl_order ha hb]
  rcases Nat.lt_trichotomy a b with h | h | h
  · rw [Nat.compare_eq_lt.2 h, decide_eq_false (by omega)]; rfl
  · rw [Nat.compare_eq_eq.2 h, decide_eq_true h]; rfl
  · rw [Nat.compare_eq_gt.2 h, decide_eq_false (by omega)]; rfl
theorem fl_0 : fl 0 = 0 := FL_zero _
theorem fl_one : fl 65536 = 4607182418800017408 := by decide

/-- The spans of an id, within a span. -/
def spN : T → Nat → Nat → List (Nat × Nat)
  | .z, _, _ => []
  | .o, f, w => [(f, w)]
  | .n l r, f, w => spN l f (w / 2) ++ spN r (f + w / 2) (w / 2)
/-- How wide it is, within something so wide. -/
def wd : T → Nat → Nat
  | .z, _ => 0
  | .o, w => w
  | .n l r, w => wd l (w / 2) + wd r (w / 2)
def ct : T → Nat
  | .z => 0
  | .o => 1
  | .n l r => ct l + ct r
def wsum (xs : List (Nat × Nat)) : Nat := xs.foldr (fun p n => p.2 + n) 0
theorem wsum_append (xs ys : List (Nat × Nat)) : wsum (xs ++ ys) = wsum xs + wsum ys := by
  induction xs with
  | nil => simp [wsum]
  | cons p r ih =>
    simp only [wsum, List.cons_append, List.foldr_cons] at *
    omega
theorem wsum_sp : ∀ (t : T) (f w : Nat), wsum (spN t f w) = wd t w
  | .z, _, _ => rfl
  | .o, f, w => by simp [spN, wd, wsum]
  | .n l r, f, w => by rw [spN, wd, wsum_append, wsum_sp l, wsum_sp r]
theorem len_sp : ∀ (t : T) (f w : Nat), (spN t f w).length = ct t
  | .z, _, _ => rfl
  | .o, _, _ => rfl
  | .n l r, f, w => by rw [spN, ct, List.length_append, len_sp l, len_sp r]
theorem wd_le : ∀ (t : T) (w : Nat), wd t w ≤ w
  | .z, _ => Nat.zero_le _
  | .o, _ => Nat.le_refl _
  | .n l r, w => by
    have h1 := wd_le l (w / 2)
    have h2 := wd_le r (w / 2)
    simp only [wd]
    omega
theorem ct_le : ∀ (t : T) (d : Nat), t.depth ≤ d → ct t ≤ 2 ^ d
  | .z, _, _ => Nat.zero_le _
  | .o, d, _ => Nat.two_pow_pos d
  | .n l r, d, h => by
    simp only [T.depth] at h
    obtain ⟨k, rfl⟩ : ∃ k, d = k + 1 := ⟨d - 1, by omega⟩
    have h1 := ct_le l k (by omega)
    have h2 := ct_le r k (by omega)
    simp only [ct, Nat.pow_succ]
    omega
def fp (p : Nat × Nat) : Nat × Nat := (fl p.1, fl p.2)
theorem spB_is : ∀ (t : T) (d f : Nat), t.depth ≤ d → f + 2 ^ d < 2 ^ 52 → spB t (fl f) (fl (2 ^ d)) = some ((spN t f (2 ^ d)).map fp)
  | .z, _, _, _, _ => rfl
  | .o, _, _, _, _ => rfl
  | .n l r, d, f, h, hf => by
    simp only [T.depth] at h
    obtain ⟨k, rfl⟩ : ∃ k, d = k + 1 := ⟨d - 1, by omega⟩
    have e : 2 ^ (k + 1) = 2 * 2 ^ k := by rw [Nat.pow_succ, Nat.mul_comm]
    rw [e] at hf ⊢
    have hh := fl_half (a := 2 ^ k) (by omega)
    have hs := fl_add (a := f) (b := 2 ^ k) (by omega)
    simp only [spB, spN, Nat.mul_div_cancel_left _ (show 0 < 2 by decide)]
    rw [hh]
    simp only [Option.bind_some]
    rw [hs]
    simp only [Option.bind_some]
    rw [spB_is l k f (by omega) (by omega), spB_is r k (f + 2 ^ k) (by omega) (by omega)]
    simp
theorem mB_is : ∀ (xs : List (Nat × Nat)) (a b : Nat), a + wsum xs < 2 ^ 52 → b + xs.length < 2 ^ 36 → mB (fl a) (fl (65536 * b)) (xs.map fp) = some (fl (a + wsum xs), fl (65536 * (b + xs.length)))
  | [], a, b, _, _ => by simp [mB, wsum]
  | (f, w) :: r, a, b, h, hb => by
    simp only [wsum, List.foldr_cons, List.length_cons] at h hb
    have hr : wsum r = List.foldr (fun p n => p.2 + n) 0 r := rfl
    rw [← hr] at h
    have h1 := fl_add (a := a) (b := w) (by omega)
    have h2 := fl_add (a := 65536 * b) (b := 65536) (by omega)
    rw [fl_one] at h2
    have hc : cSumBits .add .f64 (fl a) (fl (65536 * b)) (fl w) 4607182418800017408 = some (fl (a + w), fl (65536 * b + 65536)) := by
      unfold cSumBits
      rw [h1, h2]
      rfl
    simp only [List.map_cons, mB, fp]
    rw [hc]
    simp only [Option.bind_some]
    rw [show 65536 * b + 65536 = 65536 * (b + 1) by omega]
    have := mB_is r (a + w) (b + 1) (by omega) (by omega)
    rw [this]
    simp only [wsum, List.foldr_cons, List.length_cons]
    rw [show a + w + List.foldr (fun p n => p.2 + n) 0 r = a + (w + List.foldr (fun p n => p.2 + n) 0 r) by omega, show b + 1 + r.length = b + (r.length + 1) by omega]
/-- What is measured of an id. -/
theorem Measure_is {t : T} {v : Value} (w : World) (h : IDV w t v) (hd : t.depth ≤ 16) : Calls Try.prog 45 #[v] w fun e w' => e = .returned (.complex .f64 (fl (wd t 65536)) (fl (65536 * ct t))) ∧ Below w.heap.size w w' := by
  have h1 := spB_is t 16 0 hd (by decide)
  have h2 := mB_is (spN t 0 (2 ^ 16)) 0 0 (by rw [wsum_sp]; have := wd_le t (2 ^ 16); omega) (by rw [len_sp]; have := ct_le t 16 hd; omega)
  rw [fl_0, show fl (2 ^ 16) = 4607182418800017408 from fl_one] at h1
  rw [wsum_sp, len_sp, Nat.zero_add, Nat.zero_add, Nat.mul_zero, fl_0] at h2
  exact Measure_any w h h1 h2 (by rw [List.length_map, len_sp]; have := ct_le t 16 hd; omega)
end Go.Proofs.Ytigkjmfkpmehlaa
