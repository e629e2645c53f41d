/- The plain law: normal trees, the points that they have. -/
import Derived.Test.YtigkjmfkpmehlaaAwake
namespace Go.Proofs.Ytigkjmfkpmehlaa

def T.norm : T → Bool
  | .n l r => l.norm && r.norm && !(l.isZ && r.isZ) && !(l.isO && r.isO)
  | _ => true
/-- A point that goes on for ever: a rule. -/
def T.at : T → (Nat → Bool) → Bool
  | .z, _ => false
  | .o, _ => true
  | .n l r, x => if x 0 then r.at (fun k => x (k + 1)) else l.at (fun k => x (k + 1))
def cons (b : Bool) (x : Nat → Bool) : Nat → Bool
  | 0 => b
  | k + 1 => x k
theorem at_l (l r : T) (x : Nat → Bool) : (T.n l r).at (cons false x) = l.at x := rfl
theorem at_r (l r : T) (x : Nat → Bool) : (T.n l r).at (cons true x) = r.at x := rfl
theorem at_n (l r : T) (x : Nat → Bool) : (T.n l r).at x = if x 0 then r.at (fun k => x (k + 1)) else l.at (fun k => x (k + 1)) := rfl
theorem T.norm_n {l r : T} (h : (T.n l r).norm = true) : l.norm = true ∧ r.norm = true ∧ ¬ (l = .z ∧ r = .z) ∧ ¬ (l = .o ∧ r = .o) := by
  simp only [T.norm, Bool.and_eq_true, Bool.not_eq_true'] at h
  obtain ⟨⟨⟨h1, h2⟩, h3⟩, h4⟩ := h
  refine ⟨h1, h2, ?_, ?_⟩
  · rintro ⟨rfl, rfl⟩
    simp [T.isZ] at h3
  · rintro ⟨rfl, rfl⟩
    simp [T.isO] at h4
theorem some_at : ∀ {t : T}, t.norm = true → t ≠ .z → ∃ x, t.at x = true
  | .z, _, h => absurd rfl h
  | .o, _, _ => ⟨fun _ => false, rfl⟩
  | .n l r, hn, _ => by
    obtain ⟨h1, h2, h3, _⟩ := T.norm_n hn
    by_cases hl : l = .z
    · obtain ⟨x, hx⟩ := some_at h2 (fun hr => h3 ⟨hl, hr⟩)
      exact ⟨cons true x, hx⟩
    · obtain ⟨x, hx⟩ := some_at h1 hl
      exact ⟨cons false x, hx⟩
theorem none_at : ∀ {t : T}, t.norm = true → t ≠ .o → ∃ x, t.at x = false
  | .o, _, h => absurd rfl h
  | .z, _, _ => ⟨fun _ => false, rfl⟩
  | .n l r, hn, _ => by
    obtain ⟨h1, h2, _, h3⟩ := T.norm_n hn
    by_cases hl : l = .o
    · obtain ⟨x, hx⟩ := none_at h2 (fun hr => h3 ⟨hl, hr⟩)
      exact ⟨cons true x, hx⟩
    · obtain ⟨x, hx⟩ := none_at h1 hl
      exact ⟨cons false x, hx⟩
theorem pair_norm {l r : T} (hl : l.norm = true) (hr : r.norm = true) : (T.pair l r).norm = true := by
  unfold T.pair
  split
  · rfl
  · split
    · rfl
    · rename_i h1 h2
      simp only [T.norm, hl, hr, Bool.and_true, Bool.true_and]
      have h3 : (l.isZ && r.isZ) = false := Bool.eq_false_iff.2 h1
      have h4 : (l.isO && r.isO) = false := Bool.eq_false_iff.2 h2
      rw [h3, h4]
      rfl
theorem isZ_iff {t : T} : t.isZ = true ↔ t = .z := by cases t <;> simp [T.isZ]
theorem isO_iff {t : T} : t.isO = true ↔ t = .o := by cases t <;> simp [T.isO]
theorem pair_at (l r : T) (x : Nat → Bool) : (T.pair l r).at x = (T.n l r).at x := by
  unfold T.pair
  split
  · rename_i h
    simp only [Bool.and_eq_true, isZ_iff] at h
    obtain ⟨rfl, rfl⟩ := h
    simp [T.at]
  · split
    · rename_i h
      simp only [Bool.and_eq_true, isO_iff] at h
      obtain ⟨rfl, rfl⟩ := h
      simp [T.at]
    · rfl
theorem pair_self {l r : T} (h : (T.n l r).norm = true) : T.pair l r = .n l r := by
  obtain ⟨_, _, h1, h2⟩ := T.norm_n h
  exact pair_n (fun ⟨a, b⟩ => h1 ⟨isZ_iff.1 a, isZ_iff.1 b⟩) (fun ⟨a, b⟩ => h2 ⟨isO_iff.1 a, isO_iff.1 b⟩)
theorem disj_iff : ∀ {a b : T}, a.norm = true → b.norm = true → (a.disj b = true ↔ ∀ x, ¬ (a.at x = true ∧ b.at x = true))
  | .z, b, _, _ => by simp [T.disj, T.at]
  | .o, .z, _, _ => by simp [T.disj, T.at]
  | .n _ _, .z, _, _ => by simp [T.disj, T.at]
  | .o, .o, _, _ => by simp [T.disj, T.at]
  | .o, .n l r, _, h => by
    obtain ⟨x, hx⟩ := some_at h (by simp)
    simp only [T.disj, T.at, true_and, Bool.false_eq_true, false_iff]
    intro hh
    exact hh x hx
  | .n l r, .o, h, _ => by
    obtain ⟨x, hx⟩ := some_at h (by simp)
    simp only [T.disj, T.at, and_true, Bool.false_eq_true, false_iff]
    intro hh
    exact hh x hx
  | .n a b, .n c d, h, k => by
    obtain ⟨h1, h2, _, _⟩ := T.norm_n h
    obtain ⟨k1, k2, _, _⟩ := T.norm_n k
    simp only [T.disj, Bool.and_eq_true]
    rw [disj_iff h1 k1, disj_iff h2 k2]
    constructor
    · rintro ⟨p, q⟩ x
      rw [at_n, at_n]
      split
      · exact q _
      · exact p _
    · intro hh
      exact ⟨fun x => hh (cons false x), fun x => hh (cons true x)⟩
theorem cov_iff : ∀ {a b : T}, a.norm = true → b.norm = true → (a.cov b = true ↔ ∀ x, b.at x = true → a.at x = true)
  | .o, b, _, _ => by simp [T.cov, T.at]
  | .z, .z, _, _ => by simp [T.cov, T.at]
  | .n _ _, .z, _, _ => by simp [T.cov, T.at]
  | .z, .o, _, _ => by simp [T.cov, T.at]
  | .z, .n l r, _, h => by
    obtain ⟨x, hx⟩ := some_at h (by simp)
    simp only [T.cov, Bool.false_eq_true, false_iff]
    intro hh
    have := hh x hx
    simp [T.at] at this
  | .n l r, .o, h, _ => by
    obtain ⟨x, hx⟩ := none_at h (by simp)
    simp only [T.cov, Bool.false_eq_true, false_iff]
    intro hh
    have := hh x rfl
    rw [hx] at this
    simp at this
  | .n a b, .n c d, h, k => by
    obtain ⟨h1, h2, _, _⟩ := T.norm_n h
    obtain ⟨k1, k2, _, _⟩ := T.norm_n k
    simp only [T.cov, Bool.and_eq_true]
    rw [cov_iff h1 k1, cov_iff h2 k2]
    constructor
    · rintro ⟨p, q⟩ x
      rw [at_n, at_n]
      split
      · exact q _
      · exact p _
    · intro hh
      exact ⟨fun x => hh (cons false x), fun x => hh (cons true x)⟩
theorem sum_norm : ∀ {a b : T}, a.norm = true → b.norm = true → (a.sum b).norm = true
  | .z, _, _, k => by simpa [T.sum] using k
  | .o, _, _, _ => rfl
  | .n _ _, .z, h, _ => h
  | .n _ _, .o, _, _ => rfl
  | .n a b, .n c d, h, k => by
    obtain ⟨h1, h2, _, _⟩ := T.norm_n h
    obtain ⟨k1, k2, _, _⟩ := T.norm_n k
    exact pair_norm (sum_norm h1 k1) (sum_norm h2 k2)
theorem sum_at : ∀ (a b : T) (x : Nat → Bool), (a.sum b).at x = (a.at x || b.at x)
  | .z, _, x => by simp [T.sum, T.at]
  | .o, _, x => by simp [T.sum, T.at]
  | .n _ _, .z, x => by simp [T.sum, T.at]
  | .n _ _, .o, x => by simp [T.sum, T.at]
  | .n a b, .n c d, x => by
    simp only [T.sum]
    rw [pair_at, at_n, at_n, at_n, sum_at a c, sum_at b d]
    split <;> rfl
/-- Two normal trees that have the same points are one. -/
theorem at_ext : ∀ {a b : T}, a.norm = true → b.norm = true → (∀ x, a.at x = b.at x) → a = b
  | .z, .z, _, _, _ => rfl
  | .o, .o, _, _, _ => rfl
  | .z, .o, _, _, h => by simp [T.at] at h
  | .o, .z, _, _, h => by simp [T.at] at h
  | .z, .n l r, _, k, h => by
    obtain ⟨x, hx⟩ := some_at k (by simp)
    have := h x
    rw [hx] at this
    simp [T.at] at this
  | .n l r, .z, k, _, h => by
    obtain ⟨x, hx⟩ := some_at k (by simp)
    have := h x
    rw [hx] at this
    simp [T.at] at this
  | .o, .n l r, _, k, h => by
    obtain ⟨x, hx⟩ := none_at k (by simp)
    have := h x
    rw [hx] at this
    simp [T.at] at this
  | .n l r, .o, k, _, h => by
    obtain ⟨x, hx⟩ := none_at k (by simp)
    have := h x
    rw [hx] at this
    simp [T.at] at this
  | .n a b, .n c d, h, k, hx => by
    obtain ⟨h1, h2, _, _⟩ := T.norm_n h
    obtain ⟨k1, k2, _, _⟩ := T.norm_n k
    rw [at_ext h1 k1 (fun x => hx (cons false x)), at_ext h2 k2 (fun x => hx (cons true x))]
theorem split_norm : ∀ {t : T}, t.norm = true → t.split.1.norm = true ∧ t.split.2.norm = true
  | .z, _ => ⟨rfl, rfl⟩
  | .o, _ => by decide
  | .n l r, h => by
    obtain ⟨h1, h2, _, _⟩ := T.norm_n h
    have hl := split_norm h1
    have hr := split_norm h2
    simp only [T.split]
    split
    · exact ⟨pair_norm h1 hr.1, pair_norm h1 hr.2⟩
    · split
      · exact ⟨pair_norm hl.1 h2, pair_norm hl.2 h2⟩
      · exact ⟨pair_norm h1 rfl, pair_norm rfl h2⟩
theorem split_at : ∀ (t : T) (x : Nat → Bool), (t.split.1.at x || t.split.2.at x) = t.at x ∧ ¬ (t.split.1.at x = true ∧ t.split.2.at x = true)
  | .z, x => by simp [T.split, T.at]
  | .o, x => by
    simp only [T.split]
    rw [pair_at, pair_at, at_n, at_n]
    split <;> simp [T.at]
  | .n l r, x => by
    simp only [T.split]
    split
    · rename_i hl
      obtain rfl := isZ_iff.1 hl
      rw [pair_at, pair_at, at_n, at_n, at_n]
      split
      · exact split_at r _
      · simp [T.at]
    · split
      · rename_i hr
        obtain rfl := isZ_iff.1 hr
        rw [pair_at, pair_at, at_n, at_n, at_n]
        split
        · simp [T.at]
        · exact split_at l _
      · rw [pair_at, pair_at, at_n, at_n, at_n]
        split <;> simp [T.at]
/-- What is split is more than nothing: so are both parts. -/
theorem split_nz : ∀ {t : T}, t.norm = true → t ≠ .z → t.split.1 ≠ .z ∧ t.split.2 ≠ .z
  | .z, _, h => absurd rfl h
  | .o, _, _ => by decide
  | .n l r, h, _ => by
    obtain ⟨h1, h2, h3, _⟩ := T.norm_n h
    have hp : ∀ {a b : T}, (a ≠ .z ∨ b ≠ .z) → T.pair a b ≠ .z := by
      intro a b hab hz
      unfold T.pair at hz
      split at hz
      · rename_i hh
        simp only [Bool.and_eq_true, isZ_iff] at hh
        rcases hab with hab | hab
        · exact hab hh.1
        · exact hab hh.2
      · split at hz <;> cases hz
    simp only [T.split]
    split
    · rename_i hl
      have := split_nz h2 (fun hr => h3 ⟨isZ_iff.1 hl, hr⟩)
      exact ⟨hp (.inr this.1), hp (.inr this.2)⟩
    · rename_i hl
      have hl' : l ≠ .z := fun hh => hl (isZ_iff.2 hh)
      split
      · have := split_nz h1 hl'
        exact ⟨hp (.inl this.1), hp (.inl this.2)⟩
      · rename_i hr
        exact ⟨hp (.inl hl'), hp (.inr (fun hh => hr (isZ_iff.2 hh)))⟩
end Go.Proofs.Ytigkjmfkpmehlaa
