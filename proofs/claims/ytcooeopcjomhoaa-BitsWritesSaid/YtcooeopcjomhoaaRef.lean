/- The document's Put and Num, as printed, come to lists of bits. -/
import Derived.Test.YtcooeopcjomhoaaPBitsNumsx1
import Derived.Test.YtcooeopcjomhoaaWriter
namespace Go.Proofs.Ytcooeopcjomhoaa
open Go.RowKit Plain PBitsNums Go.Proofs.YtcooeopcjomhoaaW.PrintWords

def clampK (k : Int) : Nat := (min (max k 0) 64).toNat

theorem rwithin_eq (k : Int) : kinfolkref05_within.f k = some ((clampK k : Nat) : Int) := by
  unfold kinfolkref05_within.f clampK
  split
  · congr 1; omega
  · split
    · congr 1; omega
    · congr 1; omega

theorem half_bits (n : Int) (i : Nat) (h0 : 0 ≤ n) (h1 : n < 18446744073709551616) : IntKind.u64.wrap (Int.tdiv (n / 2 ^ i) 2) = n / 2 ^ (i + 1) := by
  have h2 : 0 ≤ n / 2 ^ i := Int.ediv_nonneg h0 (Int.pow_nonneg (by decide))
  rw [Int.tdiv_eq_ediv_of_nonneg h2, Int.ediv_ediv_of_nonneg (Int.pow_nonneg (by decide)), show (2 : Int) ^ i * 2 = 2 ^ (i + 1) from rfl, IntKind.wrap_u64]
  have h3 : 0 ≤ n / 2 ^ (i + 1) := Int.ediv_nonneg h0 (Int.pow_nonneg (by decide))
  have h4 := Int.ediv_le_self (2 ^ (i + 1)) h0
  exact Int.emod_eq_of_lt h3 (by omega)

theorem rput_loop (l : List Bool) (n kk : Int) (h0 : 0 ≤ n) (h1 : n < 18446744073709551616) (hl : l.length ≤ 1000000) :
    ∀ (d i k : Nat), i + d = clampK kk → d < k → kinfolkref05_Put.l0 k l (n / 2 ^ i) kk (bitsOf n i) (i : Int) = some (l ++ bitsOf n (clampK kk)) := by
  have hc : clampK kk ≤ 64 := by unfold clampK; omega
  intro d
  induction d with
  | zero =>
    intro i k hi hk
    obtain ⟨k, rfl⟩ : ∃ m, k = m + 1 := ⟨k - 1, by omega⟩
    simp only [kinfolkref05_Put.l0, rwithin_eq, Option.bind_some]
    have hb := bitsOf_length n i
    rw [if_neg (by omega), if_pos (by simp; omega), if_pos (by simp; omega)]
    rw [List.nil_append, show i = clampK kk from hi]
  | succ d ih =>
    intro i k hi hk
    obtain ⟨k, rfl⟩ : ∃ m, k = m + 1 := ⟨k - 1, by omega⟩
    simp only [kinfolkref05_Put.l0, rwithin_eq, Option.bind_some]
    have hb := bitsOf_length n i
    have h2 : 0 ≤ n / 2 ^ i := Int.ediv_nonneg h0 (Int.pow_nonneg (by decide))
    rw [if_pos (by omega), if_pos (by simp; omega), half_bits n i h0 h1, Int.tmod_eq_emod_of_nonneg h2]
    have hw : wrap64 ((i : Int) + 1) = ((i + 1 : Nat) : Int) := by unfold wrap64; omega
    rw [hw]
    exact ih (i + 1) k (by omega) (by omega)

theorem rput_eq (l : List Bool) (n kk : Int) (h0 : 0 ≤ n) (h1 : n < 18446744073709551616) (hl : l.length ≤ 1000000) (k : Nat) (hk : 65 ≤ k) :
    kinfolkref05_Put.f k l n kk = some (l ++ bitsOf n (clampK kk)) := by
  have hc : clampK kk ≤ 64 := by unfold clampK; omega
  have := rput_loop l n kk h0 h1 hl (clampK kk) 0 k (by omega) (by omega)
  simpa [kinfolkref05_Put.f, bitsOf] using this

theorem pow_le {i j : Nat} (h : i ≤ j) : (2 : Int) ^ i ≤ 2 ^ j := by
  have := Nat.pow_le_pow_right (n := 2) (by decide) h
  have e : ∀ m : Nat, ((2 ^ m : Nat) : Int) = 2 ^ m := fun m => by simp
  rw [← e, ← e]
  omega
theorem rpower_loop (b : Nat) (hb : b < 64) : ∀ (d i k : Nat), i + d = b → d < k → kinfolkref05_power.l0 k (b : Int) (2 ^ i) (i : Int) = some (2 ^ b) := by
  intro d
  induction d with
  | zero =>
    intro i k hi hk
    obtain ⟨k, rfl⟩ : ∃ m, k = m + 1 := ⟨k - 1, by omega⟩
    simp only [kinfolkref05_power.l0]
    rw [if_neg (by omega), show i = b from hi]
  | succ d ih =>
    intro i k hi hk
    obtain ⟨k, rfl⟩ : ∃ m, k = m + 1 := ⟨k - 1, by omega⟩
    simp only [kinfolkref05_power.l0]
    have hp : (2 : Int) ^ i * 2 < 18446744073709551616 := by
      have h1 : (2 : Int) ^ (i + 1) ≤ 2 ^ 63 := pow_le (by omega)
      have e : (2 : Int) ^ 63 = 9223372036854775808 := by decide
      have e2 : (2 : Int) ^ (i + 1) = 2 ^ i * 2 := rfl
      omega
    have hp0 : (0 : Int) < 2 ^ i := Int.pow_pos (by decide)
    rw [if_pos (by omega), IntKind.wrap_u64, Int.emod_eq_of_lt (by omega) hp, ← Int.pow_succ]
    have hw : wrap64 ((i : Int) + 1) = ((i + 1 : Nat) : Int) := by unfold wrap64; omega
    rw [hw]
    exact ih (i + 1) k (by omega) (by omega)

theorem rpower_eq (b : Nat) (hb : b < 64) (k : Nat) (hk : 65 ≤ k) : kinfolkref05_power.f k (b : Int) = some (2 ^ b) := by
  have := rpower_loop b hb b 0 k (by omega) (by omega)
  simpa [kinfolkref05_power.f] using this

theorem rnum_loop : ∀ (f c k : Nat) (n : Int) (l : List Bool), f + c = 64 → 0 ≤ n → n < 18446744073709551616 → l.length ≤ 900000 + c → 2 * f + 100 ≤ k →
    kinfolkref05_Num.l0 k l n (c : Int) = some (l ++ numFrom n f c) := by
  have stop : ∀ (c k : Nat) (n : Int) (l : List Bool), c ≤ 64 → 0 ≤ n → n < 18446744073709551616 → l.length ≤ 900064 → 80 ≤ k →
      kinfolkref05_Num.j1 k l n (c : Int) false = some (l ++ false :: bitsOf n c) := by
    intro c k n l hc h0 h1 hl hk
    obtain ⟨k, rfl⟩ : ∃ m, k = m + 1 := ⟨k - 1, by omega⟩
    simp only [kinfolkref05_Num.j1]
    rw [if_neg (by decide), rput_eq l 0 1 (by decide) (by decide) (by omega) k (by omega)]
    simp only [Option.bind_some]
    have e1 : clampK 1 = 1 := by decide
    have e2 : clampK (c : Int) = c := by unfold clampK; omega
    rw [e1, bitsOf_one, rput_eq _ n c h0 h1 (by simp; omega) k (by omega), e2]
    simp
  intro f
  induction f with
  | zero =>
    intro c k n l hc h0 h1 hl hk
    obtain ⟨k, rfl⟩ : ∃ m, k = m + 1 := ⟨k - 1, by omega⟩
    simp only [kinfolkref05_Num.l0]
    rw [if_neg (by omega), stop c k n l (by omega) h0 h1 (by omega) (by omega)]
    simp [numFrom]
  | succ f ih =>
    intro c k n l hc h0 h1 hl hk
    obtain ⟨k, rfl⟩ : ∃ m, k = m + 1 := ⟨k - 1, by omega⟩
    simp only [kinfolkref05_Num.l0]
    rw [if_pos (by omega), rpower_eq c (by omega) k (by omega)]
    simp only [Option.bind_some]
    by_cases hb : 2 ^ c ≤ n
    · rw [decide_eq_true (show n ≥ 2 ^ c from hb)]
      obtain ⟨k, rfl⟩ : ∃ m, k = m + 1 := ⟨k - 1, by omega⟩
      simp only [kinfolkref05_Num.j1]
      rw [if_pos trivial, rput_eq l 1 1 (by decide) (by decide) (by omega) k (by omega), rpower_eq c (by omega) k (by omega)]
      simp only [Option.bind_some]
      have e1 : clampK 1 = 1 := by decide
      have hp0 : (0 : Int) < 2 ^ c := Int.pow_pos (by decide)
      rw [e1, bitsOf_one, IntKind.wrap_u64, show ((1 : Int) % 2) = 1 from rfl]
      have hw : wrap64 ((c : Int) + 1) = ((c + 1 : Nat) : Int) := by unfold wrap64; omega
      have hm : (n - 2 ^ c) % 18446744073709551616 = n - 2 ^ c := Int.emod_eq_of_lt (by omega) (by omega)
      rw [hw, hm, show ((1 : Int) == 1) = true from rfl, ih (c + 1) k (n - 2 ^ c) (l ++ [true]) (by omega) (by omega) (by omega) (by simp; omega) (by omega)]
      rw [numFrom, if_pos ⟨by omega, hb⟩]
      simp
    · rw [decide_eq_false (show ¬ n ≥ 2 ^ c from hb), stop c k n l (by omega) h0 h1 (by omega) (by omega)]
      rw [numFrom, if_neg (by intro h; exact hb h.2)]

theorem rnum_eq (l : List Bool) (n : Int) (h0 : 0 ≤ n) (h1 : n < 18446744073709551616) (hl : l.length ≤ 900000) : kinfolkref05_Num.f 224 l n = some (l ++ numBits n) := by
  simpa [kinfolkref05_Num.f, numBits] using rnum_loop 62 2 224 n l rfl h0 h1 (by omega) (by omega)

end Go.Proofs.Ytcooeopcjomhoaa
