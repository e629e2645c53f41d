/- The plain law: what both have, how wide parts are together. -/
import Derived.Test.YtigkjmfkpmehlaaBoth
namespace Go.Proofs.Ytigkjmfkpmehlaa

theorem both_norm : ∀ {a b : T}, a.norm = true → b.norm = true → (a.both b).norm = true
  | .z, _, _, _ => rfl
  | .o, b, _, k => by cases b <;> simpa [T.both] using k
  | .n _ _, .z, _, _ => rfl
  | .n _ _, .o, h, _ => h
  | .n a b, .n c d, h, k => by
    obtain ⟨h1, h2, _, _⟩ := T.norm_n h
    obtain ⟨k1, k2, _, _⟩ := T.norm_n k
    exact pair_norm (both_norm h1 k1) (both_norm h2 k2)
theorem both_at : ∀ (a b : T) (x : Nat → Bool), (a.both b).at x = (a.at x && b.at x)
  | .z, _, x => by simp [T.both, T.at]
  | .o, b, x => by cases b <;> simp [T.both, T.at]
  | .n _ _, .z, x => by simp [T.both, T.at]
  | .n _ _, .o, x => by simp [T.both, T.at]
  | .n a b, .n c d, x => by
    simp only [T.both]
    rw [pair_at, at_n, at_n, at_n, both_at a c, both_at b d]
    split <;> rfl
theorem both_comm {a b : T} (ha : a.norm = true) (hb : b.norm = true) : a.both b = b.both a :=
  at_ext (both_norm ha hb) (both_norm hb ha) fun x => by rw [both_at, both_at, Bool.and_comm]
theorem both_self {a : T} (ha : a.norm = true) : a.both a = a :=
  at_ext (both_norm ha ha) ha fun x => by rw [both_at, Bool.and_self]
theorem both_o {a : T} (ha : a.norm = true) : a.both .o = a :=
  at_ext (both_norm ha rfl) ha fun x => by rw [both_at]; simp [T.at]
theorem wd_half (t : T) (d : Nat) : wd t (2 ^ (d + 1)) = wd t.left (2 ^ d) + wd t.right (2 ^ d) := by
  have e : 2 ^ (d + 1) = 2 ^ d + 2 ^ d := by rw [Nat.pow_succ]; omega
  have e2 : (2 ^ d + 2 ^ d) / 2 = 2 ^ d := by omega
  cases t with
  | z => rfl
  | o => rw [e]; rfl
  | n l r =>
    rw [e]
    simp only [wd, T.left, T.right, e2]
theorem left_at (t : T) (x : Nat → Bool) : t.left.at x = t.at (cons false x) := by cases t <;> rfl
theorem right_at (t : T) (x : Nat → Bool) : t.right.at x = t.at (cons true x) := by cases t <;> rfl
theorem left_depth {t : T} {d : Nat} (h : t.depth ≤ d + 1) : t.left.depth ≤ d ∧ t.right.depth ≤ d := by
  cases t with
  | z => exact ⟨Nat.zero_le _, Nat.zero_le _⟩
  | o => exact ⟨Nat.zero_le _, Nat.zero_le _⟩
  | n l r =>
    simp only [T.depth, T.left, T.right] at *
    omega
theorem wd_add : ∀ (d : Nat) (s t u : T), s.depth ≤ d → t.depth ≤ d → u.depth ≤ d → (∀ x, u.at x = (s.at x || t.at x)) → (∀ x, ¬ (s.at x = true ∧ t.at x = true)) → wd u (2 ^ d) = wd s (2 ^ d) + wd t (2 ^ d)
  | 0, s, t, u, hs, ht, hu, ha, hd => by
    have h1 := ha (fun _ => false)
    have h2 := hd (fun _ => false)
    have hz : ∀ v : T, v.depth ≤ 0 → v = .z ∨ v = .o := by
      intro v hv
      cases v with
      | z => exact .inl rfl
      | o => exact .inr rfl
      | n l r => simp [T.depth] at hv
    rcases hz s hs with rfl | rfl <;> rcases hz t ht with rfl | rfl <;> rcases hz u hu with rfl | rfl <;> simp_all [T.at, wd]
  | d + 1, s, t, u, hs, ht, hu, ha, hd => by
    rw [wd_half s, wd_half t, wd_half u]
    have h1 := wd_add d s.left t.left u.left (left_depth hs).1 (left_depth ht).1 (left_depth hu).1 (fun x => by rw [left_at, left_at, left_at]; exact ha _) (fun x => by rw [left_at, left_at]; exact hd _)
    have h2 := wd_add d s.right t.right u.right (left_depth hs).2 (left_depth ht).2 (left_depth hu).2 (fun x => by rw [right_at, right_at, right_at]; exact ha _) (fun x => by rw [right_at, right_at]; exact hd _)
    omega
theorem wd_zero : ∀ (d : Nat) (t : T), t.depth ≤ d → t.norm = true → (wd t (2 ^ d) = 0 ↔ t = .z)
  | d, .z, _, _ => by simp [wd]
  | d, .o, _, _ => by simp [wd]
  | 0, .n l r, h, _ => by simp [T.depth] at h
  | d + 1, .n l r, h, hn => by
    obtain ⟨n1, n2, h3, _⟩ := T.norm_n hn
    have h' := left_depth h
    have h1 := wd_zero d l h'.1 n1
    have h2 := wd_zero d r h'.2 n2
    rw [wd_half]
    simp only [T.left, T.right]
    constructor
    · intro h0
      exact absurd ⟨h1.1 (by omega), h2.1 (by omega)⟩ h3
    · intro h0
      cases h0
theorem both_z {a b : T} (ha : a.norm = true) (hb : b.norm = true) : a.both b = .z ↔ a.disj b = true := by
  rw [disj_iff ha hb]
  constructor
  · intro h x hx
    have := both_at a b x
    rw [h, hx.1, hx.2] at this
    simp [T.at] at this
  · intro h
    refine at_ext (both_norm ha hb) rfl fun x => ?_
    rw [both_at]
    have := h x
    cases h1 : a.at x <;> cases h2 : b.at x <;> simp_all [T.at]
/-- It is nothing just of two that are apart. -/
theorem common_disj {a b : T} (ha : a.norm = true) (hb : b.norm = true) (da : a.depth ≤ 16) (db : b.depth ≤ 16) : decide (wd (a.both b) 65536 = 0) = a.disj b := by
  have hd := both_depth a b
  have h1 := wd_zero 16 (a.both b) (by omega) (both_norm ha hb)
  have h2 := both_z ha hb
  cases h : a.disj b with
  | true => exact decide_eq_true (h1.2 (h2.2 h))
  | false =>
    refine decide_eq_false fun h0 => ?_
    have := h2.1 (h1.1 h0)
    rw [h] at this
    cases this
theorem split_wd {t : T} (d1 : t.split.1.depth ≤ 16) (d2 : t.split.2.depth ≤ 16) (d : t.depth ≤ 16) : wd t.split.1 65536 + wd t.split.2 65536 = wd t 65536 :=
  (wd_add 16 _ _ _ d1 d2 d (fun x => (split_at t x).1.symm) (fun x => (split_at t x).2)).symm
theorem sum_wd {a b : T} (ha : a.norm = true) (hb : b.norm = true) (da : a.depth ≤ 16) (db : b.depth ≤ 16) (ds : (a.sum b).depth ≤ 16) (h : a.disj b = true) : wd (a.sum b) 65536 = wd a 65536 + wd b 65536 :=
  wd_add 16 _ _ _ da db ds (sum_at a b) ((disj_iff ha hb).1 h)
theorem both_split {a b : T} (da : a.depth ≤ 16) (d1 : b.split.1.depth ≤ 16) (d2 : b.split.2.depth ≤ 16) (db : b.depth ≤ 16) : wd (a.both b.split.1) 65536 + wd (a.both b.split.2) 65536 = wd (a.both b) 65536 := by
  have h1 := both_depth a b.split.1
  have h2 := both_depth a b.split.2
  have h3 := both_depth a b
  refine (wd_add 16 _ _ _ (by omega) (by omega) (by omega) (fun x => ?_) (fun x => ?_)).symm
  · rw [both_at, both_at, both_at, ← (split_at b x).1, Bool.and_or_distrib_left]
  · rw [both_at, both_at]
    intro h
    simp only [Bool.and_eq_true] at h
    exact (split_at b x).2 ⟨h.1.2, h.2.2⟩
end Go.Proofs.Ytigkjmfkpmehlaa
