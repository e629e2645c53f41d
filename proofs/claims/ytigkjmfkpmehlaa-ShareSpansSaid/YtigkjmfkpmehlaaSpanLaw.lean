/- The plain law: of its spans an id is made again. -/
import Derived.Test.YtigkjmfkpmehlaaBothLaw
namespace Go.Proofs.Ytigkjmfkpmehlaa

/-- Does one of the spans begin within? -/
def inB (l : List (Nat × Nat)) (f w : Nat) : Bool := l.any (fun c => decide (f ≤ c.1) && decide (c.1 < f + w))
/-- The id, within a span, of those of a list that lie in it. -/
def fillT (l : List (Nat × Nat)) : Nat → Nat → T
  | 0, f => if l.contains (f, 1) then .o else .z
  | d + 1, f => if l.contains (f, 2 ^ (d + 1)) then .o else if inB l f (2 ^ (d + 1)) then T.pair (fillT l d f) (fillT l d (f + 2 ^ d)) else .z
theorem half_pow (d : Nat) : 2 ^ (d + 1) / 2 = 2 ^ d := by rw [Nat.pow_succ]; omega
theorem sp_n (a b : T) (f d : Nat) : spN (.n a b) f (2 ^ (d + 1)) = spN a f (2 ^ d) ++ spN b (f + 2 ^ d) (2 ^ d) := by
  simp only [spN, half_pow]
theorem sp_in : ∀ (t : T) (d f : Nat) (c : Nat × Nat), t.depth ≤ d → c ∈ spN t f (2 ^ d) → f ≤ c.1 ∧ c.1 + c.2 ≤ f + 2 ^ d ∧ 1 ≤ c.2
  | .z, d, f, c, _, h => by simp [spN] at h
  | .o, d, f, c, _, h => by
    simp only [spN, List.mem_singleton] at h
    subst h
    have := Nat.two_pow_pos d
    exact ⟨Nat.le_refl _, Nat.le_refl _, this⟩
  | .n a b, 0, f, c, hd, _ => by simp [T.depth] at hd
  | .n a b, d + 1, f, c, hd, h => by
    simp only [T.depth] at hd
    rw [sp_n, List.mem_append] at h
    have e : 2 ^ (d + 1) = 2 ^ d + 2 ^ d := by rw [Nat.pow_succ]; omega
    rcases h with h | h
    · have := sp_in a d f c (by omega) h
      omega
    · have := sp_in b d (f + 2 ^ d) c (by omega) h
      omega
theorem sp_lt {a b : T} {d f : Nat} {c : Nat × Nat} (hd : (T.n a b).depth ≤ d + 1) (h : c ∈ spN (.n a b) f (2 ^ (d + 1))) : c.2 ≤ 2 ^ d := by
  simp only [T.depth] at hd
  rw [sp_n, List.mem_append] at h
  rcases h with h | h
  · have := sp_in a d f c (by omega) h
    omega
  · have := sp_in b d (f + 2 ^ d) c (by omega) h
    omega
theorem sp_some : ∀ {t : T} (f w : Nat), t.norm = true → t ≠ .z → ∃ c, c ∈ spN t f w
  | .z, f, w, _, h => absurd rfl h
  | .o, f, w, _, _ => ⟨(f, w), by simp [spN]⟩
  | .n a b, f, w, hn, _ => by
    obtain ⟨n1, n2, h3, _⟩ := T.norm_n hn
    by_cases ha : a = .z
    · have hb : b ≠ .z := fun hb => h3 ⟨ha, hb⟩
      obtain ⟨c, hc⟩ := sp_some (f + w / 2) (w / 2) n2 hb
      exact ⟨c, by simp only [spN]; exact List.mem_append_right _ hc⟩
    · obtain ⟨c, hc⟩ := sp_some f (w / 2) n1 ha
      exact ⟨c, by simp only [spN]; exact List.mem_append_left _ hc⟩
theorem inB_iff (l : List (Nat × Nat)) (f w : Nat) : inB l f w = true ↔ ∃ c ∈ l, f ≤ c.1 ∧ c.1 < f + w := by
  simp [inB]
theorem fill_is : ∀ (d : Nat) (t : T) (f : Nat) (l : List (Nat × Nat)), t.depth ≤ d → t.norm = true → (∀ c : Nat × Nat, f ≤ c.1 → c.1 < f + 2 ^ d → (c ∈ l ↔ c ∈ spN t f (2 ^ d))) → fillT l d f = t
  | 0, t, f, l, hd, _, h => by
    have h1 := h (f, 1) (Nat.le_refl _) (by simp)
    unfold fillT
    cases t with
    | z => rw [if_neg (by simp only [List.contains_iff_mem]; rw [h1]; simp [spN])]
    | o => rw [if_pos (by simp only [List.contains_iff_mem]; rw [h1]; simp [spN])]
    | n a b => simp [T.depth] at hd
  | d + 1, t, f, l, hd, hn, h => by
    have hp := Nat.two_pow_pos d
    have e : 2 ^ (d + 1) = 2 ^ d + 2 ^ d := by rw [Nat.pow_succ]; omega
    have h1 := h (f, 2 ^ (d + 1)) (Nat.le_refl _) (by simp; omega)
    unfold fillT
    cases t with
    | z =>
      rw [if_neg (by simp only [List.contains_iff_mem]; rw [h1]; simp [spN])]
      rw [if_neg]
      rw [inB_iff]
      rintro ⟨c, hc, k1, k2⟩
      have := (h c k1 k2).1 hc
      simp [spN] at this
    | o => rw [if_pos (by simp only [List.contains_iff_mem]; rw [h1]; simp [spN])]
    | n a b =>
      rw [if_neg]
      · rw [if_pos]
        · have hd' := hd
          simp only [T.depth] at hd'
          obtain ⟨n1, n2, _, _⟩ := T.norm_n hn
          rw [fill_is d a f l (by omega) n1, fill_is d b (f + 2 ^ d) l (by omega) n2, pair_self hn]
          · intro c k1 k2
            rw [h c (by omega) (by omega), sp_n, List.mem_append]
            refine ⟨fun hc => ?_, fun hc => .inr hc⟩
            rcases hc with hc | hc
            · have := sp_in a d f c (by omega) hc
              omega
            · exact hc
          · intro c k1 k2
            rw [h c (by omega) (by omega), sp_n, List.mem_append]
            refine ⟨fun hc => ?_, fun hc => .inl hc⟩
            rcases hc with hc | hc
            · exact hc
            · have := sp_in b d (f + 2 ^ d) c (by omega) hc
              omega
        · rw [inB_iff]
          obtain ⟨c, hc⟩ := sp_some f (2 ^ (d + 1)) hn (by simp)
          have := sp_in _ _ _ _ hd hc
          exact ⟨c, (h c (by omega) (by omega)).2 hc, by omega, by omega⟩
      · simp only [List.contains_iff_mem]
        rw [h1]
        intro hc
        have := sp_lt hd hc
        simp only at this
        omega
/-- The law. -/
theorem fill_spans {t : T} (hd : t.depth ≤ 16) (hn : t.norm = true) : fillT (spN t 0 65536) 16 0 = t :=
  fill_is 16 t 0 _ hd hn (fun _ _ _ => Iff.rfl)
theorem fill_depth : ∀ (d f : Nat) (l : List (Nat × Nat)), (fillT l d f).depth ≤ d
  | 0, f, l => by unfold fillT; split <;> simp [T.depth]
  | d + 1, f, l => by
    unfold fillT
    split
    · simp [T.depth]
    · split
      · have h1 := fill_depth d f l
        have h2 := fill_depth d (f + 2 ^ d) l
        have h3 := pair_depth (fillT l d f) (fillT l d (f + 2 ^ d))
        omega
      · simp [T.depth]
end Go.Proofs.Ytigkjmfkpmehlaa
