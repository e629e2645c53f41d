/- Plain facts on lists of bits and their bytes (no program in sight). -/
namespace Go.Proofs.Ytcooeopcjomhoaa.Plain

def bv (b : Bool) : Int := if b then 1 else 0
theorem bv_cases (b : Bool) : bv b = 0 ∨ bv b = 1 := by cases b <;> simp [bv]
theorem bv_false : bv false = 0 := rfl
theorem bv_true : bv true = 1 := rfl
/-- The bit number j; behind the end: a nought. -/
def gb (l : List Bool) (j : Nat) : Bool := l.getD j false
theorem gb_past (l : List Bool) (j : Nat) (h : l.length ≤ j) : gb l j = false := by
  unfold gb; rw [List.getD_eq_getElem?_getD, List.getElem?_eq_none (by omega)]; rfl
theorem gb_snoc (l : List Bool) (b : Bool) (j : Nat) : gb (l ++ [b]) j = if j = l.length then b else gb l j := by
  unfold gb
  simp only [List.getD_eq_getElem?_getD, List.getElem?_append]
  split
  · rw [if_neg (by omega)]
  · rename_i h
    split
    · rename_i e; subst e; simp
    · rw [List.getElem?_eq_none (l := l) (by omega), List.getElem?_eq_none (by simp; omega)]
theorem gb_snoc_false (l : List Bool) (j : Nat) : gb (l ++ [false]) j = gb l j := by
  rw [gb_snoc]
  split
  · rename_i e; rw [gb_past l j (by omega)]
  · rfl

/-- The byte number i of a list of bits. -/
def byteAt (l : List Bool) (i : Nat) : Int :=
  128 * bv (gb l (8 * i)) + 64 * bv (gb l (8 * i + 1)) + 32 * bv (gb l (8 * i + 2)) + 16 * bv (gb l (8 * i + 3)) +
  8 * bv (gb l (8 * i + 4)) + 4 * bv (gb l (8 * i + 5)) + 2 * bv (gb l (8 * i + 6)) + bv (gb l (8 * i + 7))

def pack (l : List Bool) : List Int := (List.range ((l.length + 7) / 8)).map (byteAt l)

theorem byteAt_bounds (l : List Bool) (i : Nat) : 0 ≤ byteAt l i ∧ byteAt l i ≤ 255 := by
  unfold byteAt
  have h0 := bv_cases (gb l (8 * i))
  have h1 := bv_cases (gb l (8 * i + 1))
  have h2 := bv_cases (gb l (8 * i + 2))
  have h3 := bv_cases (gb l (8 * i + 3))
  have h4 := bv_cases (gb l (8 * i + 4))
  have h5 := bv_cases (gb l (8 * i + 5))
  have h6 := bv_cases (gb l (8 * i + 6))
  have h7 := bv_cases (gb l (8 * i + 7))
  omega

theorem pack_length (l : List Bool) : (pack l).length = (l.length + 7) / 8 := by simp [pack]
theorem pack_get (l : List Bool) (i : Nat) (h : i < (l.length + 7) / 8) : (pack l)[i]? = some (byteAt l i) := by simp [pack, h]
theorem pack_getD (l : List Bool) (i : Nat) (h : i < (l.length + 7) / 8) : (pack l).getD i 0 = byteAt l i := by
  rw [List.getD_eq_getElem?_getD, pack_get l i h]; rfl
theorem pack_mem (l : List Bool) (x : Int) (h : x ∈ pack l) : 0 ≤ x ∧ x ≤ 255 := by
  simp only [pack, List.mem_map] at h
  obtain ⟨i, _, rfl⟩ := h
  exact byteAt_bounds l i

theorem byteAt_snoc_false (l : List Bool) (i : Nat) : byteAt (l ++ [false]) i = byteAt l i := by
  simp only [byteAt, gb_snoc_false]

theorem byteAt_past (l : List Bool) (i : Nat) (h : l.length ≤ 8 * i) : byteAt l i = 0 := by
  simp only [byteAt, gb_past l (8 * i) (by omega), gb_past l (8 * i + 1) (by omega), gb_past l (8 * i + 2) (by omega), gb_past l (8 * i + 3) (by omega), gb_past l (8 * i + 4) (by omega), gb_past l (8 * i + 5) (by omega), gb_past l (8 * i + 6) (by omega), gb_past l (8 * i + 7) (by omega), bv_false]
  rfl

theorem pack_snoc_false_new (l : List Bool) (h : l.length % 8 = 0) : pack (l ++ [false]) = pack l ++ [0] := by
  have hlen : ((l ++ [false]).length + 7) / 8 = (l.length + 7) / 8 + 1 := by simp; omega
  unfold pack
  rw [hlen, List.range_succ, List.map_append]
  congr 1
  · exact List.map_congr_left fun i _ => byteAt_snoc_false l i
  · simp only [List.map_cons, List.map_nil]
    rw [byteAt_snoc_false, byteAt_past l _ (by omega)]

theorem pack_snoc_false_old (l : List Bool) (h : l.length % 8 ≠ 0) : pack (l ++ [false]) = pack l := by
  have hlen : ((l ++ [false]).length + 7) / 8 = (l.length + 7) / 8 := by simp; omega
  unfold pack
  rw [hlen]
  exact List.map_congr_left fun i _ => byteAt_snoc_false l i

/-- What the bit at the list's end adds to its byte. -/
theorem byteAt_snoc_true (l : List Bool) (i : Nat) : byteAt (l ++ [true]) i = if i = l.length / 8 then byteAt l i + 2 ^ (7 - l.length % 8) else byteAt l i := by
  by_cases e : i = l.length / 8
  · rw [if_pos e]
    simp only [byteAt, gb_snoc]
    have hr : l.length % 8 = 0 ∨ l.length % 8 = 1 ∨ l.length % 8 = 2 ∨ l.length % 8 = 3 ∨ l.length % 8 = 4 ∨ l.length % 8 = 5 ∨ l.length % 8 = 6 ∨ l.length % 8 = 7 := by omega
    rcases hr with h | h | h | h | h | h | h | h
    · rw [h]
      rw [if_pos (show 8 * i = l.length by omega), if_neg (show ¬ 8 * i + 1 = l.length by omega), if_neg (show ¬ 8 * i + 2 = l.length by omega), if_neg (show ¬ 8 * i + 3 = l.length by omega), if_neg (show ¬ 8 * i + 4 = l.length by omega), if_neg (show ¬ 8 * i + 5 = l.length by omega), if_neg (show ¬ 8 * i + 6 = l.length by omega), if_neg (show ¬ 8 * i + 7 = l.length by omega), gb_past l (8 * i) (by omega)]
      simp only [bv_true, bv_false, Nat.reduceSub, Int.reducePow]; omega
    · rw [h]
      rw [if_neg (show ¬ 8 * i = l.length by omega), if_pos (show 8 * i + 1 = l.length by omega), if_neg (show ¬ 8 * i + 2 = l.length by omega), if_neg (show ¬ 8 * i + 3 = l.length by omega), if_neg (show ¬ 8 * i + 4 = l.length by omega), if_neg (show ¬ 8 * i + 5 = l.length by omega), if_neg (show ¬ 8 * i + 6 = l.length by omega), if_neg (show ¬ 8 * i + 7 = l.length by omega), gb_past l (8 * i + 1) (by omega)]
      simp only [bv_true, bv_false, Nat.reduceSub, Int.reducePow]; omega
    · rw [h]
      rw [if_neg (show ¬ 8 * i = l.length by omega), if_neg (show ¬ 8 * i + 1 = l.length by omega), if_pos (show 8 * i + 2 = l.length by omega), if_neg (show ¬ 8 * i + 3 = l.length by omega), if_neg (show ¬ 8 * i + 4 = l.length by omega), if_neg (show ¬ 8 * i + 5 = l.length by omega), if_neg (show ¬ 8 * i + 6 = l.length by omega), if_neg (show ¬ 8 * i + 7 = l.length by omega), gb_past l (8 * i + 2) (by omega)]
      simp only [bv_true, bv_false, Nat.reduceSub, Int.reducePow]; omega
    · rw [h]
      rw [if_neg (show ¬ 8 * i = l.length by omega), if_neg (show ¬ 8 * i + 1 = l.length by omega), if_neg (show ¬ 8 * i + 2 = l.length by omega), if_pos (show 8 * i + 3 = l.length by omega), if_neg (show ¬ 8 * i + 4 = l.length by omega), if_neg (show ¬ 8 * i + 5 = l.length by omega), if_neg (show ¬ 8 * i + 6 = l.length by omega), if_neg (show ¬ 8 * i + 7 = l.length by omega), gb_past l (8 * i + 3) (by omega)]
      simp only [bv_true, bv_false, Nat.reduceSub, Int.reducePow]; omega
    · rw [h]
      rw [if_neg (show ¬ 8 * i = l.length by omega), if_neg (show ¬ 8 * i + 1 = l.length by omega), if_neg (show ¬ 8 * i + 2 = l.length by omega), if_neg (show ¬ 8 * i + 3 = l.length by omega), if_pos (show 8 * i + 4 = l.length by omega), if_neg (show ¬ 8 * i + 5 = l.length by omega), if_neg (show ¬ 8 * i + 6 = l.length by omega), if_neg (show ¬ 8 * i + 7 = l.length by omega), gb_past l (8 * i + 4) (by omega)]
      simp only [bv_true, bv_false, Nat.reduceSub, Int.reducePow]; omega
    · rw [h]
      rw [if_neg (show ¬ 8 * i = l.length by omega), if_neg (show ¬ 8 * i + 1 = l.length by omega), if_neg (show ¬ 8 * i + 2 = l.length by omega), if_neg (show ¬ 8 * i + 3 = l.length by omega), if_neg (show ¬ 8 * i + 4 = l.length by omega), if_pos (show 8 * i + 5 = l.length by omega), if_neg (show ¬ 8 * i + 6 = l.length by omega), if_neg (show ¬ 8 * i + 7 = l.length by omega), gb_past l (8 * i + 5) (by omega)]
      simp only [bv_true, bv_false, Nat.reduceSub, Int.reducePow]; omega
    · rw [h]
      rw [if_neg (show ¬ 8 * i = l.length by omega), if_neg (show ¬ 8 * i + 1 = l.length by omega), if_neg (show ¬ 8 * i + 2 = l.length by omega), if_neg (show ¬ 8 * i + 3 = l.length by omega), if_neg (show ¬ 8 * i + 4 = l.length by omega), if_neg (show ¬ 8 * i + 5 = l.length by omega), if_pos (show 8 * i + 6 = l.length by omega), if_neg (show ¬ 8 * i + 7 = l.length by omega), gb_past l (8 * i + 6) (by omega)]
      simp only [bv_true, bv_false, Nat.reduceSub, Int.reducePow]; omega
    · rw [h]
      rw [if_neg (show ¬ 8 * i = l.length by omega), if_neg (show ¬ 8 * i + 1 = l.length by omega), if_neg (show ¬ 8 * i + 2 = l.length by omega), if_neg (show ¬ 8 * i + 3 = l.length by omega), if_neg (show ¬ 8 * i + 4 = l.length by omega), if_neg (show ¬ 8 * i + 5 = l.length by omega), if_neg (show ¬ 8 * i + 6 = l.length by omega), if_pos (show 8 * i + 7 = l.length by omega), gb_past l (8 * i + 7) (by omega)]
      simp only [bv_true, bv_false, Nat.reduceSub, Int.reducePow]; omega
  · rw [if_neg e]
    simp only [byteAt, gb_snoc]
    rw [if_neg (show ¬ 8 * i = l.length by omega), if_neg (show ¬ 8 * i + 1 = l.length by omega), if_neg (show ¬ 8 * i + 2 = l.length by omega), if_neg (show ¬ 8 * i + 3 = l.length by omega), if_neg (show ¬ 8 * i + 4 = l.length by omega), if_neg (show ¬ 8 * i + 5 = l.length by omega), if_neg (show ¬ 8 * i + 6 = l.length by omega), if_neg (show ¬ 8 * i + 7 = l.length by omega)]

/-- The bit's place in its byte is a nought before: so 'or' adds it. -/
theorem byteAt_low (l : List Bool) : ∃ q : Int, byteAt l (l.length / 8) = q * 2 ^ (8 - l.length % 8) := by
  have hr : l.length % 8 = 0 ∨ l.length % 8 = 1 ∨ l.length % 8 = 2 ∨ l.length % 8 = 3 ∨ l.length % 8 = 4 ∨ l.length % 8 = 5 ∨ l.length % 8 = 6 ∨ l.length % 8 = 7 := by omega
  rcases hr with h | h | h | h | h | h | h | h
  · rw [h]; unfold byteAt; rw [gb_past l (8 * (l.length / 8)) (by omega), gb_past l (8 * (l.length / 8) + 1) (by omega), gb_past l (8 * (l.length / 8) + 2) (by omega), gb_past l (8 * (l.length / 8) + 3) (by omega), gb_past l (8 * (l.length / 8) + 4) (by omega), gb_past l (8 * (l.length / 8) + 5) (by omega), gb_past l (8 * (l.length / 8) + 6) (by omega), gb_past l (8 * (l.length / 8) + 7) (by omega)]
    exact ⟨0, by simp only [bv_false, Nat.reduceSub, Int.reducePow]; omega⟩
  · rw [h]; unfold byteAt; rw [gb_past l (8 * (l.length / 8) + 1) (by omega), gb_past l (8 * (l.length / 8) + 2) (by omega), gb_past l (8 * (l.length / 8) + 3) (by omega), gb_past l (8 * (l.length / 8) + 4) (by omega), gb_past l (8 * (l.length / 8) + 5) (by omega), gb_past l (8 * (l.length / 8) + 6) (by omega), gb_past l (8 * (l.length / 8) + 7) (by omega)]
    exact ⟨1 * bv (gb l (8 * (l.length / 8))), by simp only [bv_false, Nat.reduceSub, Int.reducePow]; omega⟩
  · rw [h]; unfold byteAt; rw [gb_past l (8 * (l.length / 8) + 2) (by omega), gb_past l (8 * (l.length / 8) + 3) (by omega), gb_past l (8 * (l.length / 8) + 4) (by omega), gb_past l (8 * (l.length / 8) + 5) (by omega), gb_past l (8 * (l.length / 8) + 6) (by omega), gb_past l (8 * (l.length / 8) + 7) (by omega)]
    exact ⟨2 * bv (gb l (8 * (l.length / 8))) + 1 * bv (gb l (8 * (l.length / 8) + 1)), by simp only [bv_false, Nat.reduceSub, Int.reducePow]; omega⟩
  · rw [h]; unfold byteAt; rw [gb_past l (8 * (l.length / 8) + 3) (by omega), gb_past l (8 * (l.length / 8) + 4) (by omega), gb_past l (8 * (l.length / 8) + 5) (by omega), gb_past l (8 * (l.length / 8) + 6) (by omega), gb_past l (8 * (l.length / 8) + 7) (by omega)]
    exact ⟨4 * bv (gb l (8 * (l.length / 8))) + 2 * bv (gb l (8 * (l.length / 8) + 1)) + 1 * bv (gb l (8 * (l.length / 8) + 2)), by simp only [bv_false, Nat.reduceSub, Int.reducePow]; omega⟩
  · rw [h]; unfold byteAt; rw [gb_past l (8 * (l.length / 8) + 4) (by omega), gb_past l (8 * (l.length / 8) + 5) (by omega), gb_past l (8 * (l.length / 8) + 6) (by omega), gb_past l (8 * (l.length / 8) + 7) (by omega)]
    exact ⟨8 * bv (gb l (8 * (l.length / 8))) + 4 * bv (gb l (8 * (l.length / 8) + 1)) + 2 * bv (gb l (8 * (l.length / 8) + 2)) + 1 * bv (gb l (8 * (l.length / 8) + 3)), by simp only [bv_false, Nat.reduceSub, Int.reducePow]; omega⟩
  · rw [h]; unfold byteAt; rw [gb_past l (8 * (l.length / 8) + 5) (by omega), gb_past l (8 * (l.length / 8) + 6) (by omega), gb_past l (8 * (l.length / 8) + 7) (by omega)]
    exact ⟨16 * bv (gb l (8 * (l.length / 8))) + 8 * bv (gb l (8 * (l.length / 8) + 1)) + 4 * bv (gb l (8 * (l.length / 8) + 2)) + 2 * bv (gb l (8 * (l.length / 8) + 3)) + 1 * bv (gb l (8 * (l.length / 8) + 4)), by simp only [bv_false, Nat.reduceSub, Int.reducePow]; omega⟩
  · rw [h]; unfold byteAt; rw [gb_past l (8 * (l.length / 8) + 6) (by omega), gb_past l (8 * (l.length / 8) + 7) (by omega)]
    exact ⟨32 * bv (gb l (8 * (l.length / 8))) + 16 * bv (gb l (8 * (l.length / 8) + 1)) + 8 * bv (gb l (8 * (l.length / 8) + 2)) + 4 * bv (gb l (8 * (l.length / 8) + 3)) + 2 * bv (gb l (8 * (l.length / 8) + 4)) + 1 * bv (gb l (8 * (l.length / 8) + 5)), by simp only [bv_false, Nat.reduceSub, Int.reducePow]; omega⟩
  · rw [h]; unfold byteAt; rw [gb_past l (8 * (l.length / 8) + 7) (by omega)]
    exact ⟨64 * bv (gb l (8 * (l.length / 8))) + 32 * bv (gb l (8 * (l.length / 8) + 1)) + 16 * bv (gb l (8 * (l.length / 8) + 2)) + 8 * bv (gb l (8 * (l.length / 8) + 3)) + 4 * bv (gb l (8 * (l.length / 8) + 4)) + 2 * bv (gb l (8 * (l.length / 8) + 5)) + 1 * bv (gb l (8 * (l.length / 8) + 6)), by simp only [bv_false, Nat.reduceSub, Int.reducePow]; omega⟩

theorem pack_snoc_true (l : List Bool) : pack (l ++ [true]) = (pack (l ++ [false])).set (l.length / 8) (byteAt l (l.length / 8) + 2 ^ (7 - l.length % 8)) := by
  apply List.ext_getElem?
  intro i
  rw [List.getElem?_set]
  have hlen : (l ++ [true]).length = l.length + 1 := by simp
  have hlen' : (l ++ [false]).length = l.length + 1 := by simp
  by_cases hi : i < (l.length + 1 + 7) / 8
  · rw [pack_get _ i (by rw [hlen]; exact hi), byteAt_snoc_true]
    by_cases e : i = l.length / 8
    · subst e; rw [if_pos rfl, if_pos rfl, if_pos (by rw [pack_length, hlen']; exact hi)]
    · rw [if_neg e, if_neg (Ne.symm e), pack_get _ i (by rw [hlen']; exact hi), byteAt_snoc_false]
  · rw [List.getElem?_eq_none (by rw [pack_length, hlen]; omega), if_neg (by omega), List.getElem?_eq_none (by rw [pack_length, hlen']; omega)]

/-- The lowest k bits of n, the highest first. -/
def bitsOf (n : Int) : Nat → List Bool
  | 0 => []
  | k + 1 => (n / 2 ^ k % 2 == 1) :: bitsOf n k
theorem bitsOf_length (n : Int) : ∀ k, (bitsOf n k).length = k
  | 0 => rfl
  | k + 1 => by simp [bitsOf, bitsOf_length n k]

end Go.Proofs.Ytcooeopcjomhoaa.Plain
