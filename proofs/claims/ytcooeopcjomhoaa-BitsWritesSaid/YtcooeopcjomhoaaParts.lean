/- Plain facts on bits in parts, and on bytes read bit by bit; bytes.Equal of equal bytes. -/
import Derived.Test.YtcooeopcjomhoaaGet
import Derived.Test.YtcooeopcjomhoaaNumsWalk
import Derived.Test.YtcooeopcjomhoaaPBitsPartsx1
namespace Go.Proofs.Ytcooeopcjomhoaa
open Go.RowKit Plain

theorem bitsOf_append (n : Int) (h : 0 ≤ n) (b : Nat) : ∀ a : Nat, bitsOf n (a + b) = bitsOf (n / 2 ^ b) a ++ bitsOf n b
  | 0 => by simp [bitsOf]
  | a + 1 => by
    rw [show a + 1 + b = (a + b) + 1 by omega, bitsOf, bitsOf, bitsOf_append n h b a, Int.ediv_ediv_of_nonneg (Int.pow_nonneg (by decide)), ← Int.pow_add, Nat.add_comm b a, List.cons_append]

theorem valOf_cons (b : Bool) (l : List Bool) : valOf (b :: l) = bv b * 2 ^ l.length + valOf l := by
  have key : ∀ (l : List Bool) (n : Int), l.foldl (fun n b => 2 * n + bv b) n = n * 2 ^ l.length + l.foldl (fun n b => 2 * n + bv b) 0 := by
    intro l
    induction l with
    | nil => intro n; simp
    | cons c l ih =>
      intro n
      rw [List.foldl_cons, List.foldl_cons, ih (2 * n + bv c), ih (2 * 0 + bv c), List.length_cons]
      have e : (2 : Int) ^ (l.length + 1) = 2 ^ l.length * 2 := rfl
      rw [e, Int.add_mul, Int.mul_comm 2 n, Int.mul_assoc n 2, Int.mul_comm 2 (2 ^ l.length)]
      simp only [Int.mul_zero, Int.zero_add]
      omega
  unfold valOf
  rw [List.foldl_cons, key l]
  simp

theorem valOf_bitsOf (n : Int) (h : 0 ≤ n) : ∀ k, valOf (bitsOf n k) = n % 2 ^ k
  | 0 => by simp [bitsOf, valOf]
  | k + 1 => by
    have hp : (0 : Int) < 2 ^ k := Int.pow_pos (by decide)
    have e : (2 : Int) ^ (k + 1) = 2 ^ k * 2 := rfl
    rw [bitsOf, valOf_cons, bitsOf_length, valOf_bitsOf n h k, bv_bit, e, emod_two _ _ hp, Int.mul_comm]

theorem bv_le (b : Bool) : 0 ≤ bv b ∧ bv b ≤ 1 := by cases b <;> decide
theorem byte_bit {b0 b1 b2 b3 b4 b5 b6 b7 : Int} (h0 : 0 ≤ b0 ∧ b0 ≤ 1) (h1 : 0 ≤ b1 ∧ b1 ≤ 1) (h2 : 0 ≤ b2 ∧ b2 ≤ 1) (h3 : 0 ≤ b3 ∧ b3 ≤ 1) (h4 : 0 ≤ b4 ∧ b4 ≤ 1) (h5 : 0 ≤ b5 ∧ b5 ≤ 1) (h6 : 0 ≤ b6 ∧ b6 ≤ 1) (h7 : 0 ≤ b7 ∧ b7 ≤ 1) :
    let x := 128 * b0 + 64 * b1 + 32 * b2 + 16 * b3 + 8 * b4 + 4 * b5 + 2 * b6 + b7
    x / 128 % 2 = b0 ∧ x / 64 % 2 = b1 ∧ x / 32 % 2 = b2 ∧ x / 16 % 2 = b3 ∧ x / 8 % 2 = b4 ∧ x / 4 % 2 = b5 ∧ x / 2 % 2 = b6 ∧ x / 1 % 2 = b7 := by
  intro x
  have e1 : x / 64 = 2 * b0 + b1 := by omega
  have e2 : x / 32 = 4 * b0 + 2 * b1 + b2 := by omega
  have e3 : x / 16 = 8 * b0 + 4 * b1 + 2 * b2 + b3 := by omega
  have e4 : x / 8 = 16 * b0 + 8 * b1 + 4 * b2 + 2 * b3 + b4 := by omega
  have e5 : x / 4 = 32 * b0 + 16 * b1 + 8 * b2 + 4 * b3 + 2 * b4 + b5 := by omega
  have e6 : x / 2 = 64 * b0 + 32 * b1 + 16 * b2 + 8 * b3 + 4 * b4 + 2 * b5 + b6 := by omega
  refine ⟨by omega, by omega, by omega, by omega, by omega, by omega, by omega, by omega⟩

theorem bit_pack (l : List Bool) (j : Nat) (h : j < l.length) : bitAt (pack l) j = gb l j := by
  unfold bitAt
  rw [pack_getD l _ (by omega)]
  have hr : j % 8 = 0 ∨ j % 8 = 1 ∨ j % 8 = 2 ∨ j % 8 = 3 ∨ j % 8 = 4 ∨ j % 8 = 5 ∨ j % 8 = 6 ∨ j % 8 = 7 := by omega
  have hb := byte_bit (bv_le (gb l (8 * (j / 8)))) (bv_le (gb l (8 * (j / 8) + 1))) (bv_le (gb l (8 * (j / 8) + 2))) (bv_le (gb l (8 * (j / 8) + 3))) (bv_le (gb l (8 * (j / 8) + 4))) (bv_le (gb l (8 * (j / 8) + 5))) (bv_le (gb l (8 * (j / 8) + 6))) (bv_le (gb l (8 * (j / 8) + 7)))
  have fin : ∀ (x : Int) (b : Bool), x = bv b → (x == 1) = b := fun x b e => by subst e; cases b <;> rfl
  apply fin
  unfold byteAt
  obtain ⟨c0, c1, c2, c3, c4, c5, c6, c7⟩ := hb
  rcases hr with h | h | h | h | h | h | h | h <;> rw [h] <;> simp only [Nat.reduceSub, Int.reducePow]
  · rw [c0, show 8 * (j / 8) = j by omega]
  · rw [c1, show 8 * (j / 8) + 1 = j by omega]
  · rw [c2, show 8 * (j / 8) + 2 = j by omega]
  · rw [c3, show 8 * (j / 8) + 3 = j by omega]
  · rw [c4, show 8 * (j / 8) + 4 = j by omega]
  · rw [c5, show 8 * (j / 8) + 5 = j by omega]
  · rw [c6, show 8 * (j / 8) + 6 = j by omega]
  · rw [c7, show 8 * (j / 8) + 7 = j by omega]

theorem rest_pack (l : List Bool) (m k : Nat) (h : m + k ≤ l.length) : (rest (pack l) m).take k = (l.drop m).take k := by
  apply List.ext_getElem?
  intro i
  rw [List.getElem?_take, List.getElem?_take]
  split
  · rename_i hi
    rw [rest_get _ _ _ (by rw [pack_length]; omega), bit_pack l _ (by omega), List.getElem?_drop, List.getElem?_eq_getElem (by omega)]
    unfold gb
    rw [List.getD_eq_getElem?_getD, List.getElem?_eq_getElem (by omega)]
    rfl
  · rfl
/-- Reading what was written: the bits between. -/
theorem getV_mid (A B C : List Bool) : getV (pack (A ++ B ++ C)) A.length B.length = valOf B := by
  unfold getV
  rw [rest_pack _ _ _ (by simp)]
  rw [List.append_assoc, List.drop_left, List.take_left]

theorem RB.toC {w : World} {v : Value} {P : List Int} (h : RB w v P) (hP : P.length ≤ 9223372036854775807) : ∃ a c, v = .slice a P.length c ∧ P.length ≤ c ∧ YtcooeopcjomhoaaW.PrintWords.Kd.C (YtcooeopcjomhoaaW.PrintWords.Kd.int .u8) w a P.length P := by
  rcases h with ⟨rfl, rfl⟩ | ⟨b, off, cap, rfl, h1, h2, h3⟩
  · exact ⟨none, 0, rfl, Nat.le_refl _, rfl, by simp, fun h => by simp at h⟩
  · refine ⟨_, _, rfl, h1, rfl, hP, fun _ => ⟨_, rfl, fun j p hj => ⟨[.int .u8 p], rfl, rfl, fun i u hi => ?_⟩⟩⟩
    cases i with
    | zero =>
      simp at hi
      subst hi
      rw [Addr.add_lit]
      simpa [YtcooeopcjomhoaaW.PrintWords.Kd.int, YtcooeopcjomhoaaW.PrintWords.Kd.scalar] using h3 j p hj
    | succ i => simp at hi

theorem equal_same {v v' : Value} {P : List Int} (w : World) (h : RB w v P) (h' : RB w v' P) (hP : P.length ≤ 9223372036854775807) :
    Calls Try.prog 14 #[v, v'] w fun e w' => e = .returned (.bool true) ∧ ∃ n, w' = w.drewN n := by
  obtain ⟨a, c, rfl, hc, hr⟩ := h.toC hP
  obtain ⟨a', c', rfl, hc', hr'⟩ := h'.toC hP
  exact (PBitsParts.bytes_Equal.calls a c P a' c' P true w hr hc hr' hc' (by simp [PBitsParts.bytes_Equal.f])).mono fun e w' ⟨he, hd⟩ => ⟨he, hd.out⟩
end Go.Proofs.Ytcooeopcjomhoaa
