/- Plain facts on numbers in few bits: no one's bits begin another's; greater ones have no fewer. -/
import Derived.Test.YtcooeopcjomhoaaWriter
namespace Go.Proofs.Ytcooeopcjomhoaa
open Plain

theorem emod_two (a m : Int) (hm : 0 < m) : a % (m * 2) = m * (a / m % 2) + a % m := by
  have h1 := Int.mul_ediv_add_emod a m
  have h2 := Int.mul_ediv_add_emod (a / m) 2
  have h3 := Int.emod_nonneg a (show m ≠ 0 by omega)
  have h4 := Int.emod_lt_of_pos a hm
  have h5 : a / m % 2 = 0 ∨ a / m % 2 = 1 := by omega
  have e : a = (m * (a / m % 2) + a % m) + m * 2 * (a / m / 2) := by
    have h6 : m * (a / m) = m * (2 * (a / m / 2) + a / m % 2) := by rw [h2]
    rw [Int.mul_add, ← Int.mul_assoc] at h6
    omega
  have h7 : a % (m * 2) = (m * (a / m % 2) + a % m) % (m * 2) := by
    conv => lhs; rw [e]
    rw [Int.add_mul_emod_self_left]
  rw [h7]
  refine Int.emod_eq_of_lt ?_ ?_
  · rcases h5 with h | h <;> rw [h] <;> omega
  · rcases h5 with h | h <;> rw [h] <;> omega
theorem bitsOf_inj : ∀ (k : Nat) (a b : Int), bitsOf a k = bitsOf b k → a % 2 ^ k = b % 2 ^ k
  | 0, a, b, _ => by simp only [Int.pow_zero]; omega
  | k + 1, a, b, h => by
    simp only [bitsOf, List.cons.injEq] at h
    have ih := bitsOf_inj k a b h.2
    have hp : (0 : Int) < 2 ^ k := Int.pow_pos (by decide)
    have e : (2 : Int) ^ (k + 1) = 2 ^ k * 2 := rfl
    rw [e, emod_two _ _ hp, emod_two _ _ hp, ih]
    have h2 : a / 2 ^ k % 2 = b / 2 ^ k % 2 := by
      have h1 := h.1
      by_cases ha : a / 2 ^ k % 2 = 1
      · rw [ha] at h1 ⊢
        have : (b / 2 ^ k % 2 == 1) = true := by rw [← h1]; rfl
        exact (by simpa using this : b / 2 ^ k % 2 = 1).symm
      · have h3 : (b / 2 ^ k % 2 == 1) = false := by rw [← h1]; simpa using ha
        have h4 : ¬ b / 2 ^ k % 2 = 1 := by simpa using h3
        omega
    rw [h2]

theorem numFrom_len_ge : ∀ (f c : Nat) (n : Int), 1 + c ≤ (numFrom n f c).length
  | 0, c, n => by simp [numFrom, bitsOf_length]; omega
  | f + 1, c, n => by
    rw [numFrom]
    split
    · have := numFrom_len_ge f (c + 1) (n - 2 ^ c)
      simp; omega
    · simp [bitsOf_length]; omega

theorem numFrom_mono : ∀ (f c : Nat) (a b : Int), a ≤ b → (numFrom a f c).length ≤ (numFrom b f c).length
  | 0, c, a, b, _ => by simp [numFrom, bitsOf_length]
  | f + 1, c, a, b, h => by
    rw [numFrom, numFrom]
    by_cases ha : c < 64 ∧ 2 ^ c ≤ a
    · rw [if_pos ha, if_pos ⟨ha.1, by omega⟩]
      have := numFrom_mono f (c + 1) (a - 2 ^ c) (b - 2 ^ c) (by omega)
      simp; omega
    · rw [if_neg ha]
      split
      · have := numFrom_len_ge f (c + 1) (b - 2 ^ c)
        simp [bitsOf_length]; omega
      · simp [bitsOf_length]

theorem numFrom_pre : ∀ (f c : Nat) (a b : Int), f + c = 64 → 0 ≤ a → a < 18446744073709551616 → 0 ≤ b → b < 18446744073709551616 → numFrom a f c <+: numFrom b f c → a = b
  | 0, c, a, b, hc, ha0, ha1, hb0, hb1, h => by
    obtain rfl : c = 64 := by omega
    simp only [numFrom] at h
    rw [List.cons_prefix_cons] at h
    have := bitsOf_inj 64 a b (h.2.eq_of_length (by simp [bitsOf_length]))
    have e : (2 : Int) ^ 64 = 18446744073709551616 := by decide
    rw [e] at this
    omega
  | f + 1, c, a, b, hc, ha0, ha1, hb0, hb1, h => by
    rw [numFrom, numFrom] at h
    have hp : (0 : Int) < 2 ^ c := Int.pow_pos (by decide)
    by_cases ha : c < 64 ∧ 2 ^ c ≤ a
    · rw [if_pos ha] at h
      by_cases hb : c < 64 ∧ 2 ^ c ≤ b
      · rw [if_pos hb, List.cons_prefix_cons] at h
        have := numFrom_pre f (c + 1) (a - 2 ^ c) (b - 2 ^ c) (by omega) (by omega) (by omega) (by omega) (by omega) h.2
        omega
      · rw [if_neg hb, List.cons_prefix_cons] at h
        exact absurd h.1 (by decide)
    · rw [if_neg ha] at h
      by_cases hb : c < 64 ∧ 2 ^ c ≤ b
      · rw [if_pos hb, List.cons_prefix_cons] at h
        exact absurd h.1 (by decide)
      · rw [if_neg hb, List.cons_prefix_cons] at h
        have := bitsOf_inj c a b (h.2.eq_of_length (by simp [bitsOf_length]))
        rw [Int.emod_eq_of_lt ha0 (by omega), Int.emod_eq_of_lt hb0 (by omega)] at this
        exact this

/-- Are the first i bits alike? -/
def al (A B : List Bool) (i : Nat) : Bool := decide (A.length ≤ B.length) && decide (A.take i = B.take i)

theorem al_zero (A B : List Bool) : al A B 0 = decide (A.length ≤ B.length) := by simp [al]
theorem al_succ (A B : List Bool) (i : Nat) (h : i < A.length) : al A B (i + 1) = (al A B i && decide (i < B.length) && (A.getD i false == B.getD i false)) := by
  unfold al
  by_cases hl : A.length ≤ B.length
  · have hb : i < B.length := by omega
    rw [decide_eq_true hl, decide_eq_true hb, List.take_succ_eq_append_getElem h, List.take_succ_eq_append_getElem hb, List.getD_eq_getElem?_getD, List.getD_eq_getElem?_getD, List.getElem?_eq_getElem h, List.getElem?_eq_getElem hb]
    simp only [Bool.true_and, Bool.and_true, Option.getD_some]
    rw [Bool.eq_iff_iff]
    simp only [decide_eq_true_eq, Bool.and_eq_true, beq_iff_eq]
    constructor
    · intro e
      have := List.append_inj e (by simp; omega)
      exact ⟨this.1, by simpa using this.2⟩
    · rintro ⟨e1, e2⟩
      rw [e1, e2]
  · rw [decide_eq_false hl]
    simp

theorem al_law (a b : Int) (ha0 : 0 ≤ a) (ha1 : a < 18446744073709551616) (hb0 : 0 ≤ b) (hb1 : b < 18446744073709551616) : al (numBits a) (numBits b) (numBits a).length = (a == b) := by
  rw [Bool.eq_iff_iff]
  simp only [al, Bool.and_eq_true, decide_eq_true_eq, beq_iff_eq]
  constructor
  · rintro ⟨_, h2⟩
    rw [List.take_length] at h2
    exact numFrom_pre 62 2 a b rfl ha0 ha1 hb0 hb1 (by unfold numBits at h2; rw [h2]; exact List.take_prefix _ _)
  · rintro rfl
    exact ⟨Nat.le_refl _, rfl⟩
theorem len_law (a b : Int) (h : a ≤ b) : (numBits a).length ≤ (numBits b).length := numFrom_mono 62 2 a b h

end Go.Proofs.Ytcooeopcjomhoaa
