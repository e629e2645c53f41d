/- Plain facts on what was written, and how it is read again. -/
import Derived.Test.YtcooeopcjomhoaaRBytes
namespace Go.Proofs.Ytcooeopcjomhoaa
open Go.RowKit Plain

theorem two_pow_add (a b : Nat) : (2 : Int) ^ (a + b) = 2 ^ a * 2 ^ b := Int.pow_add ..
/-- The form of a number's bits. -/
theorem numFrom_form : ∀ (f c : Nat) (n : Int), f + c = 64 → 0 ≤ n → n < 18446744073709551616 →
    ∃ (t : Nat) (n' : Int), t ≤ f ∧ numFrom n f c = List.replicate t true ++ false :: bitsOf n' (c + t) ∧ 0 ≤ n' ∧ n' < 2 ^ (c + t) ∧ n' + (2 ^ (c + t) - 2 ^ c) = n
  | 0, c, n, hc, h0, h1 => by
    obtain rfl : c = 64 := by omega
    exact ⟨0, n, Nat.le_refl _, rfl, h0, h1, by simp⟩
  | f + 1, c, n, hc, h0, h1 => by
    by_cases h : 2 ^ c ≤ n
    · have hp : (0 : Int) < 2 ^ c := Int.pow_pos (by decide)
      obtain ⟨t, n', ht, he, h2, h3, h4⟩ := numFrom_form f (c + 1) (n - 2 ^ c) (by omega) (by omega) (by omega)
      refine ⟨t + 1, n', by omega, ?_, h2, by rw [show c + (t + 1) = c + 1 + t by omega]; exact h3, ?_⟩
      · rw [numFrom, if_pos ⟨by omega, h⟩, he, show c + (t + 1) = c + 1 + t by omega]
        rfl
      · rw [show c + (t + 1) = c + 1 + t by omega]
        have e : (2 : Int) ^ (c + 1) = 2 ^ c * 2 := rfl
        omega
    · exact ⟨0, n, by omega, by rw [numFrom, if_neg (fun hh => h hh.2)]; rfl, h0, by simpa using (by omega : n < 2 ^ c), by simp⟩

theorem numS_numBits (n : Int) (C : List Bool) (h0 : 0 ≤ n) (h1 : n < 18446744073709551616) : numS (numBits n ++ C) = some (n, (numBits n).length) := by
  obtain ⟨t, n', ht, he, h2, h3, h4⟩ := numFrom_form 62 2 n rfl h0 h1
  unfold numBits
  rw [he]
  have hlen : (List.replicate t true ++ false :: bitsOf n' (2 + t)).length = t + 1 + (t + 2) := by simp [bitsOf_length]; omega
  have hg : ∀ i, i < t → gb (List.replicate t true ++ false :: bitsOf n' (2 + t) ++ C) i = true := fun i hi => by
    unfold gb
    rw [List.getD_eq_getElem?_getD, List.append_assoc, List.getElem?_append_left (by simp; omega)]
    simp [hi]
  have hf : gb (List.replicate t true ++ false :: bitsOf n' (2 + t) ++ C) t = false := by
    unfold gb
    rw [List.getD_eq_getElem?_getD, List.append_assoc, List.getElem?_append_right (by simp)]
    simp
  have h1u := onesUp_of _ t 62 ht hg (.inr hf)
  have hd : ((List.replicate t true ++ false :: bitsOf n' (2 + t) ++ C).drop (t + 1)).take (t + 2) = bitsOf n' (t + 2) := by
    rw [show List.replicate t true ++ false :: bitsOf n' (2 + t) ++ C = (List.replicate t true ++ [false]) ++ (bitsOf n' (2 + t) ++ C) by simp]
    rw [List.drop_left' (by simp), Nat.add_comm 2 t, List.take_left' (by rw [bitsOf_length])]
  rw [numS_of h1u hf (by rw [List.length_append, hlen]; omega), hd, valOf_bitsOf n' h2, Nat.add_comm t 2, Int.emod_eq_of_lt h2 h3]
  have hb : baseOf t + n' = n := by
    unfold baseOf
    have e : (2 : Int) ^ (2 + t) = 4 * 2 ^ t := two_pow_add 2 t
    have e2 : (2 : Int) ^ 2 = 4 := by decide
    omega
  rw [hb, if_pos h1, hlen, Nat.add_comm 2 t]

theorem rest_split (A B C : List Bool) : ∃ X, rest (pack (A ++ B ++ C)) A.length = B ++ X := by
  refine ⟨(rest (pack (A ++ B ++ C)) A.length).drop B.length, ?_⟩
  have h := rest_pack (A ++ B ++ C) A.length B.length (by simp)
  rw [List.append_assoc, List.drop_left, List.take_left, ← List.append_assoc] at h
  conv => rhs; lhs; rw [← h]
  rw [List.take_append_drop]

theorem numR_mid (A C : List Bool) (n : Int) (h0 : 0 ≤ n) (h1 : n < 18446744073709551616) : numR (pack (A ++ numBits n ++ C)) A.length 0 = (n, A.length + (numBits n).length, 0) := by
  obtain ⟨X, hX⟩ := rest_split A (numBits n) C
  unfold numR
  rw [if_pos rfl, hX, numS_numBits n X h0 h1]

theorem getR_mid (A B C : List Bool) : getR (pack (A ++ B ++ C)) A.length 0 B.length = (valOf B, A.length + B.length, 0) := by
  rw [getR_ok (by rw [pack_length]; simp; omega), getV_mid]

theorem bit_pack_past (l : List Bool) (j : Nat) (h : l.length ≤ j) (h2 : j < 8 * ((l.length + 7) / 8)) : bitAt (pack l) j = false := by
  have e : pack l = pack (l ++ List.replicate (8 * ((l.length + 7) / 8) - l.length) false) := by
    apply List.ext_getElem?
    intro i
    by_cases hi : i < (l.length + 7) / 8
    · rw [pack_get _ _ hi, pack_get _ _ (by simp; omega)]
      congr 1
      have hg : ∀ k, gb (l ++ List.replicate (8 * ((l.length + 7) / 8) - l.length) false) k = gb l k := fun k => by
        unfold gb
        rw [List.getD_eq_getElem?_getD, List.getD_eq_getElem?_getD, List.getElem?_append]
        split
        · rfl
        · rw [List.getElem?_eq_none (l := l) (by omega), List.getElem?_replicate]
          split <;> rfl
      simp only [byteAt, hg]
    · rw [List.getElem?_eq_none (by rw [pack_length]; omega), List.getElem?_eq_none (by rw [pack_length]; simp; omega)]
  rw [e, bit_pack _ _ (by simp; omega)]
  unfold gb
  rw [List.getD_eq_getElem?_getD, List.getElem?_append_right h, List.getElem?_replicate]
  split <;> rfl

theorem valOf_zeros : ∀ k, valOf (List.replicate k false) = 0
  | 0 => rfl
  | k + 1 => by rw [List.replicate_succ, valOf_cons, valOf_zeros k]; simp [bv]

/-- What is left behind all that was written is nothing. -/
theorem endR_all (l : List Bool) : endR (pack l) l.length 0 = 0 := by
  unfold endR
  have hp := pack_length l
  have hr : rest (pack l) l.length = List.replicate (8 * (pack l).length - l.length) false := by
    rw [List.eq_replicate_iff]
    refine ⟨rest_length _ _, fun b hb => ?_⟩
    obtain ⟨i, hi, rfl⟩ := List.getElem_of_mem hb
    rw [rest_length] at hi
    have := rest_get (pack l) l.length i (by omega)
    rw [List.getElem?_eq_getElem (by rw [rest_length]; exact hi)] at this
    injection this with this
    rw [this, bit_pack_past l _ (by omega) (by rw [hp] at hi; omega)]
  rw [if_pos rfl, if_pos]
  unfold getV
  rw [hr, List.take_of_length_le (by simp), valOf_zeros]
  exact ⟨by omega, rfl⟩

/-- What an act writes. -/
def actBits (t : Int × Int × Int) : List Bool := if t.1 % 2 = 0 then bitsOf t.2.1 (clampK t.2.2) else numBits t.2.1
def actsBits (acts : List (Int × Int × Int)) : List Bool := acts.flatMap actBits
theorem actBits_le (t : Int × Int × Int) : (actBits t).length ≤ 200 := by
  unfold actBits
  split
  · rw [bitsOf_length]; unfold clampK; omega
  · exact numBits_le _
theorem actsBits_le : ∀ acts : List (Int × Int × Int), (actsBits acts).length ≤ 200 * acts.length
  | [] => by simp [actsBits]
  | t :: l => by
    have h1 := actBits_le t
    have h2 := actsBits_le l
    unfold actsBits at h2 ⊢
    rw [List.flatMap_cons, List.length_append, List.length_cons]
    omega
theorem actsBits_succ (acts : List (Int × Int × Int)) (i : Nat) (h : i < acts.length) : actsBits (acts.take (i + 1)) = actsBits (acts.take i) ++ actBits (acts.getD i (0, 0, 0)) := by
  unfold actsBits
  rw [List.take_succ_eq_append_getElem h, List.flatMap_append, List.getD_eq_getElem?_getD, List.getElem?_eq_getElem h]
  simp
theorem actsBits_split (acts : List (Int × Int × Int)) (i : Nat) (h : i < acts.length) : ∃ C, actsBits acts = actsBits (acts.take i) ++ actBits (acts.getD i (0, 0, 0)) ++ C := by
  refine ⟨actsBits (acts.drop (i + 1)), ?_⟩
  rw [← actsBits_succ acts i h]
  unfold actsBits
  rw [← List.flatMap_append, List.take_append_drop]
end Go.Proofs.Ytcooeopcjomhoaa
