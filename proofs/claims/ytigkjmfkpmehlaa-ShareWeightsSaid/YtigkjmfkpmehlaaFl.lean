/- Floats that are whole numbers of one least part: sums, halves, products of them are exact. -/
import Derived.Test.YtigkjmfkpmehlaaMeasure
namespace Go.Proofs.Ytigkjmfkpmehlaa
open Ieee

theorem log2_mul {n : Nat} (hn : n ≠ 0) (j : Nat) : (n * 2 ^ j).log2 = n.log2 + j := by
  have h1 := Nat.log2_self_le hn
  have h2 := Nat.lt_log2_self (n := n)
  have h0 : n * 2 ^ j ≠ 0 := Nat.mul_ne_zero hn (Nat.ne_of_gt (Nat.two_pow_pos j))
  refine (Nat.log2_eq_iff h0).2 ⟨?_, ?_⟩
  · rw [Nat.pow_add]
    exact Nat.mul_le_mul_right _ h1
  · rw [show n.log2 + j + 1 = (n.log2 + 1) + j by omega, Nat.pow_add]
    exact Nat.mul_lt_mul_of_pos_right h2 (Nat.two_pow_pos j)
theorem e_sw : Format.signWeight double = 2 ^ 63 := rfl
theorem e_inf : Format.infRung double = 2047 * 2 ^ 52 := by decide
theorem e_bin : Format.binade double = 2 ^ 52 := rfl
theorem e_least : Format.leastPlace double = -1074 := by decide
theorem e_frac : double.fractionBits = 52 := rfl

/-- 'n' parts of 2 ^ p. -/
def FL (n : Nat) (p : Int) : Nat := double.nearest false n p
theorem log_le {n : Nat} (h : n < 2 ^ 53) : n.log2 ≤ 52 := by
  by_cases hn : n = 0
  · subst hn; decide
  · have := (Nat.log2_lt hn (k := 53)).2 h
    omega
theorem cut0 (n d : Nat) : Toward.even.cut false (n * 2 ^ d) d = n := by
  unfold Toward.cut
  by_cases hn : n = 0
  · subst hn
    simp
  · have hl := log2_mul hn d
    have hm : min d ((n * 2 ^ d).log2 + 2) = d := by rw [hl]; omega
    simp only [hm, Nat.one_shiftLeft]
    have h0 : 0 < 2 ^ d := Nat.two_pow_pos d
    rw [Nat.mul_div_cancel _ h0, Nat.mul_mod_left]
    simp
theorem near_kept (n : Nat) (hL : n.log2 ≤ 52) (p : Int) (j : Nat) : Toward.even.cut false ((n * 2 ^ j) <<< (p - (j : Int) - (p + n.log2 - 52)).toNat) (p + (n.log2 : Int) - 52 - (p - j)).toNat = n * 2 ^ (52 - n.log2) := by
  by_cases hj : j ≤ 52 - n.log2
  · have e1 : (p - (j : Int) - (p + n.log2 - 52)).toNat = 52 - n.log2 - j := by omega
    have e2 : (p + (n.log2 : Int) - 52 - (p - j)).toNat = 0 := by omega
    rw [e1, e2, Nat.shiftLeft_eq, Nat.mul_assoc, ← Nat.pow_add, show j + (52 - n.log2 - j) = 52 - n.log2 by omega]
    have := cut0 (n * 2 ^ (52 - n.log2)) 0
    rwa [Nat.pow_zero, Nat.mul_one] at this
  · have e1 : (p - (j : Int) - (p + n.log2 - 52)).toNat = 0 := by omega
    have e2 : (p + (n.log2 : Int) - 52 - (p - j)).toNat = j - (52 - n.log2) := by omega
    rw [e1, e2, Nat.shiftLeft_zero, show n * 2 ^ j = n * 2 ^ (52 - n.log2) * 2 ^ (j - (52 - n.log2)) by rw [Nat.mul_assoc, ← Nat.pow_add]; congr 2; omega]
    exact cut0 _ _
theorem near_val {n : Nat} (hn : n ≠ 0) (hs : n < 2 ^ 53) {p : Int} (h1 : -900 ≤ p) (h2 : p ≤ 900) (j : Nat) :
    double.nearest false (n * 2 ^ j) (p - j) = (p + n.log2 + 1022).toNat * 2 ^ 52 + n * 2 ^ (52 - n.log2) := by
  have hL := log_le hs
  have hl := log2_mul hn j
  have h0 : n * 2 ^ j ≠ 0 := Nat.mul_ne_zero hn (Nat.ne_of_gt (Nat.two_pow_pos j))
  have hlt := Nat.lt_log2_self (n := n)
  have hsz : n * 2 ^ (52 - n.log2) < 2 ^ 53 := by
    have : 2 ^ (n.log2 + 1) * 2 ^ (52 - n.log2) = 2 ^ 53 := by rw [← Nat.pow_add]; congr 1; omega
    rw [← this]
    exact Nat.mul_lt_mul_of_pos_right hlt (Nat.two_pow_pos _)
  unfold Format.nearest
  rw [if_neg h0]
  simp only [hl, e_frac, e_least, e_inf, e_bin]
  have hlast : max (p - (j : Int) + ((n.log2 + j : Nat) : Int) - ((52 : Nat) : Int)) (-1074) = p + n.log2 - 52 := by omega
  rw [hlast, near_kept n hL p j]
  have e3 : (p + (n.log2 : Int) - 52 - -1074).toNat = (p + n.log2 + 1022).toNat := by congr 1; omega
  rw [e3]
  unfold Format.word
  simp only [Bool.false_eq_true, if_false]
  have h7 : (p + n.log2 + 1022).toNat ≤ 1974 := by omega
  generalize (p + n.log2 + 1022).toNat = E at *
  generalize n * 2 ^ (52 - n.log2) = M at *
  clear hlast h0 hl e3
  exact Nat.min_eq_left (by omega)
theorem near_is {n : Nat} (hs : n < 2 ^ 53) {p : Int} (h1 : -900 ≤ p) (h2 : p ≤ 900) (j : Nat) : double.nearest false (n * 2 ^ j) (p - j) = FL n p := by
  by_cases hn : n = 0
  · subst hn
    unfold FL Format.nearest
    simp
  · rw [near_val hn hs h1 h2]
    have := near_val hn hs h1 h2 0
    unfold FL
    rw [← this]
    simp
theorem read_FL {n : Nat} (hn : n ≠ 0) (hs : n < 2 ^ 53) {p : Int} (h1 : -900 ≤ p) (h2 : p ≤ 900) : double.read (FL n p) = .number false (n * 2 ^ (52 - n.log2)) (p - ((52 - n.log2 : Nat) : Int)) := by
  have hL := log_le hs
  have hv : FL n p = (p + n.log2 + 1022).toNat * 2 ^ 52 + n * 2 ^ (52 - n.log2) := by
    have := near_val hn hs h1 h2 0
    simpa [FL] using this
  have hlt := Nat.lt_log2_self (n := n)
  have hge := Nat.log2_self_le hn
  have hsz : n * 2 ^ (52 - n.log2) < 2 ^ 53 := by
    have : 2 ^ (n.log2 + 1) * 2 ^ (52 - n.log2) = 2 ^ 53 := by rw [← Nat.pow_add]; congr 1; omega
    rw [← this]
    exact Nat.mul_lt_mul_of_pos_right hlt (Nat.two_pow_pos _)
  have hsg : 2 ^ 52 ≤ n * 2 ^ (52 - n.log2) := by
    have : 2 ^ n.log2 * 2 ^ (52 - n.log2) = 2 ^ 52 := by rw [← Nat.pow_add]; congr 1; omega
    rw [← this]
    exact Nat.mul_le_mul_right _ hge
  obtain ⟨E, hE⟩ : ∃ E, (p + n.log2 + 1022).toNat = E := ⟨_, rfl⟩
  obtain ⟨M, hM⟩ : ∃ M, n * 2 ^ (52 - n.log2) = M := ⟨_, rfl⟩
  have hE1 : 122 ≤ E ∧ E ≤ 1974 := by omega
  have hp : (p - ((52 - n.log2 : Nat) : Int)) = -1074 + (E : Int) := by omega
  rw [hv, hp]
  rw [hE, hM]
  rw [hM] at hsz hsg
  clear hv hE hM hp hL h1 h2 hlt hge hs hn
  unfold Format.read
  simp only [e_sw, e_bin, e_inf, e_least]
  have hb : E * 2 ^ 52 + M < 2 ^ 63 := by omega
  have d1 : (E * 2 ^ 52 + M) / 2 ^ 63 = 0 := Nat.div_eq_of_lt hb
  have d2 : (E * 2 ^ 52 + M) % 2 ^ 63 = E * 2 ^ 52 + M := Nat.mod_eq_of_lt hb
  rw [d1, d2, if_neg (by omega), if_pos (by omega)]
  have d3 : (E * 2 ^ 52 + M) % 2 ^ 52 = M - 2 ^ 52 := by omega
  have d4 : (E * 2 ^ 52 + M) / 2 ^ 52 = E + 1 := by omega
  rw [d3, d4, show 2 ^ 52 + (M - 2 ^ 52) = M by omega, Nat.add_sub_cancel]
  rfl
theorem FL_zero (p : Int) : FL 0 p = 0 := by
  unfold FL Format.nearest
  rfl
/-- What stands for 'n' parts of 2 ^ p. -/
theorem read_is {n : Nat} (hs : n < 2 ^ 53) {p : Int} (h1 : -900 ≤ p) (h2 : p ≤ 900) : ∃ k : Nat, k ≤ 2000 ∧ double.read (FL n p) = .number false (n * 2 ^ k) (p - k) := by
  by_cases hn : n = 0
  · subst hn
    refine ⟨(p + 1074).toNat, by omega, ?_⟩
    rw [FL_zero, show p - ((p + 1074).toNat : Int) = -1074 by omega, Nat.zero_mul]
    rfl
  · exact ⟨_, by omega, read_FL hn hs h1 h2⟩
theorem FL_scale {n : Nat} (hs : n < 2 ^ 53) {p : Int} (h1 : -900 ≤ p) (h2 : p ≤ 900) (j : Nat) : FL (n * 2 ^ j) (p - j) = FL n p := near_is hs h1 h2 j
theorem FL_add {a b : Nat} (h : a + b < 2 ^ 53) {p : Int} (h1 : -900 ≤ p) (h2 : p ≤ 900) : double.add (FL a p) (FL b p) = some (FL (a + b) p) := by
  obtain ⟨k, hk, ha⟩ := read_is (n := a) (by omega) h1 h2
  obtain ⟨l, hl, hb⟩ := read_is (n := b) (by omega) h1 h2
  unfold Format.add
  rw [ha, hb]
  simp only [Datum.sum, Option.map_some, Option.some.injEq, Format.write]
  have hmin : min (p - (k : Int)) (p - (l : Int)) = p - (max k l : Nat) := by omega
  rw [hmin]
  have e1 : signed false (a * 2 ^ k) (p - (k : Int) - (p - (max k l : Nat))).toNat = ((a * 2 ^ max k l : Nat) : Int) := by
    unfold signed
    simp only [Bool.false_eq_true, if_false]
    rw [show (p - (k : Int) - (p - (max k l : Nat))).toNat = max k l - k by omega, Nat.shiftLeft_eq, Nat.mul_assoc, ← Nat.pow_add, show k + (max k l - k) = max k l by omega]
  have e2 : signed false (b * 2 ^ l) (p - (l : Int) - (p - (max k l : Nat))).toNat = ((b * 2 ^ max k l : Nat) : Int) := by
    unfold signed
    simp only [Bool.false_eq_true, if_false]
    rw [show (p - (l : Int) - (p - (max k l : Nat))).toNat = max k l - l by omega, Nat.shiftLeft_eq, Nat.mul_assoc, ← Nat.pow_add, show l + (max k l - l) = max k l by omega]
  rw [e1, e2, ← Int.natCast_add, ← Nat.add_mul, Int.natAbs_natCast]
  have hneg : (if (((a + b) * 2 ^ max k l : Nat) : Int) = 0 then false && false else decide ((((a + b) * 2 ^ max k l : Nat) : Int) < 0)) = false := by
    split
    · rfl
    · exact decide_eq_false (by omega)
  rw [hneg]
  exact near_is h h1 h2 _
theorem FL_order {a b : Nat} (ha : a < 2 ^ 53) (hb : b < 2 ^ 53) {p : Int} (h1 : -900 ≤ p) (h2 : p ≤ 900) : double.order (FL a p) (FL b p) = some (compare a b) := by
  obtain ⟨k, hk, ha⟩ := read_is ha h1 h2
  obtain ⟨l, hl, hb⟩ := read_is hb h1 h2
  unfold Format.order
  rw [ha, hb]
  simp only [Datum.order, Option.some.injEq]
  have hmin : min (p - (k : Int)) (p - (l : Int)) = p - (max k l : Nat) := by omega
  rw [hmin]
  have e1 : signed false (a * 2 ^ k) (p - (k : Int) - (p - (max k l : Nat))).toNat = ((a * 2 ^ max k l : Nat) : Int) := by
    unfold signed
    simp only [Bool.false_eq_true, if_false]
    rw [show (p - (k : Int) - (p - (max k l : Nat))).toNat = max k l - k by omega, Nat.shiftLeft_eq, Nat.mul_assoc, ← Nat.pow_add, show k + (max k l - k) = max k l by omega]
  have e2 : signed false (b * 2 ^ l) (p - (l : Int) - (p - (max k l : Nat))).toNat = ((b * 2 ^ max k l : Nat) : Int) := by
    unfold signed
    simp only [Bool.false_eq_true, if_false]
    rw [show (p - (l : Int) - (p - (max k l : Nat))).toNat = max k l - l by omega, Nat.shiftLeft_eq, Nat.mul_assoc, ← Nat.pow_add, show l + (max k l - l) = max k l by omega]
  rw [e1, e2]
  have h0 : 0 < 2 ^ max k l := Nat.two_pow_pos _
  rcases Nat.lt_trichotomy a b with h | h | h
  · have : a * 2 ^ max k l < b * 2 ^ max k l := Nat.mul_lt_mul_of_pos_right h h0
    rw [Nat.compare_eq_lt.2 h]
    simp only [compare, compareOfLessAndEq]
    rw [if_pos (by omega)]
  · subst h
    simp [compare, compareOfLessAndEq]
  · have : b * 2 ^ max k l < a * 2 ^ max k l := Nat.mul_lt_mul_of_pos_right h h0
    rw [Nat.compare_eq_gt.2 h]
    simp only [compare, compareOfLessAndEq]
    rw [if_neg (by omega), if_neg (by omega)]
theorem FL_mul {a b : Nat} (h : a * b < 2 ^ 53) (ha : a < 2 ^ 53) (hb : b < 2 ^ 53) {p q : Int} (h1 : -400 ≤ p) (h2 : p ≤ 400) (h3 : -400 ≤ q) (h4 : q ≤ 400) : double.mul (FL a p) (FL b q) = some (FL (a * b) (p + q)) := by
  obtain ⟨k, hk, ha⟩ := read_is ha (p := p) (by omega) (by omega)
  obtain ⟨l, hl, hb⟩ := read_is hb (p := q) (by omega) (by omega)
  unfold Format.mul
  rw [ha, hb]
  simp only [Datum.product, Option.map_some, Option.some.injEq, Format.write]
  have e : a * 2 ^ k * (b * 2 ^ l) = a * b * 2 ^ (k + l) := by
    rw [Nat.pow_add, Nat.mul_assoc, Nat.mul_left_comm (2 ^ k), ← Nat.mul_assoc]
  rw [e, show p - (k : Int) + (q - l) = p + q - ((k + l : Nat) : Int) by omega]
  exact near_is h (by omega) (by omega) _
/-- Divided by 2 ^ s. -/
theorem FL_div {a : Nat} (ha : a < 2 ^ 53) {p : Int} (h1 : -400 ≤ p) (h2 : p ≤ 400) {s : Nat} (hs : s ≤ 100) {y : Nat} (hy : double.read y = .number false (2 ^ 52) ((s : Int) - 52)) : double.div (FL a p) y = some (FL a (p - s)) := by
  unfold Format.div
  by_cases h0 : a = 0
  · subst h0
    rw [FL_zero, hy, show double.read 0 = .number false 0 (-1074) by rfl]
    simp only [Datum.quotient]
    rw [if_neg (by decide)]
    simp only [Option.map_some, Option.some.injEq, Format.write, Nat.zero_shiftLeft, Nat.zero_div, Nat.zero_mod]
    rw [FL_zero]
    rfl
  · rw [read_FL h0 ha (by omega) (by omega), hy]
    have hL := log_le ha
    obtain ⟨k, hk⟩ : ∃ k, 52 - a.log2 = k := ⟨_, rfl⟩
    rw [hk]
    have hlog : (a * 2 ^ k).log2 = 52 := by rw [log2_mul h0]; omega
    simp only [Datum.quotient]
    rw [if_neg (by decide)]
    simp only [hlog, e_frac, Option.map_some, Option.some.injEq, Format.write, Nat.log2_two_pow]
    have e : ∀ M : Nat, 2 * (M <<< (52 + 2 + 52 - 52) / 2 ^ 52) + (M <<< (52 + 2 + 52 - 52) % 2 ^ 52 != 0).toNat = M * 8 := by
      intro M
      have e9 : M <<< (52 + 2 + 52 - 52) = M * 4 * 2 ^ 52 := by
        rw [Nat.shiftLeft_eq, Nat.mul_assoc]
      have e8 : (M * 4 * 2 ^ 52) / 2 ^ 52 = M * 4 := Nat.mul_div_cancel _ (by decide)
      have e7 : (M * 4 * 2 ^ 52) % 2 ^ 52 = 0 := Nat.mul_mod_left _ _
      rw [e9, e8, e7]
      show 2 * (M * 4) + 0 = M * 8
      omega
    rw [e, show a * 2 ^ k * 8 = a * 2 ^ (k + 3) by rw [Nat.pow_add, Nat.mul_assoc]]
    rw [show p - (k : Int) - ((s : Int) - 52) - ((52 + 2 : Nat) : Int) - 1 = p - s - ((k + 3 : Nat) : Int) by omega]
    exact near_is ha (by omega) (by omega) _
end Go.Proofs.Ytigkjmfkpmehlaa
