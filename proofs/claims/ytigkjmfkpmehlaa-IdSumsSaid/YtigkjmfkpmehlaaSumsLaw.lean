/- The plain law of IdSums: part by part. -/
import Derived.Test.YtigkjmfkpmehlaaOf
namespace Go.Proofs.Ytigkjmfkpmehlaa

theorem T.left_depth1 {t : T} {d : Nat} (h : t.depth ≤ d + 1) : t.left.depth ≤ d := by cases t <;> simp_all [T.left, T.depth]; omega
theorem T.right_depth1 {t : T} {d : Nat} (h : t.depth ≤ d + 1) : t.right.depth ≤ d := by cases t <;> simp_all [T.right, T.depth]; omega
theorem has_disj : ∀ (d : Nat) {a b : T}, a.norm = true → b.norm = true → a.depth ≤ d → b.depth ≤ d → ((∀ j : Nat, ¬ ((hasL d a)[j]? = some true ∧ (hasL d b)[j]? = some true)) ↔ a.disj b = true)
  | 0, a, b, _, _, ha, hb => by
    have e : (∀ j : Nat, ¬ ((hasL 0 a)[j]? = some true ∧ (hasL 0 b)[j]? = some true)) ↔ ¬ (a.isO = true ∧ b.isO = true) := by
      simp only [hasL]
      constructor
      · intro h hh
        exact h 0 (by simp [hh.1, hh.2])
      · intro h j hh
        cases j with
        | zero => simp at hh; exact h hh
        | succ j => simp at hh
    rw [e]
    cases a <;> cases b <;> simp_all [T.depth, T.isO, T.disj]
  | d + 1, a, b, na, nb, ha, hb => by
    rw [disj_halves na nb, Bool.and_eq_true, ← has_disj d (T.left_norm na) (T.left_norm nb) (T.left_depth1 ha) (T.left_depth1 hb), ← has_disj d (T.right_norm na) (T.right_norm nb) (T.right_depth1 ha) (T.right_depth1 hb)]
    simp only [hasL]
    have l1 := hasL_len d a.left
    have l2 := hasL_len d b.left
    constructor
    · intro h
      refine ⟨fun j hj => ?_, fun j hj => ?_⟩
      · have hlt : j < (hasL d a.left).length := (List.getElem?_eq_some_iff.1 hj.1).1
        refine h j ?_
        rw [List.getElem?_append_left hlt, List.getElem?_append_left (by omega)]
        exact hj
      · refine h (2 ^ d + j) ?_
        rw [List.getElem?_append_right (by omega), List.getElem?_append_right (by omega), l1, l2, Nat.add_sub_cancel_left]
        exact hj
    · rintro ⟨h, k⟩ j hj
      by_cases hlt : j < 2 ^ d
      · rw [List.getElem?_append_left (by omega), List.getElem?_append_left (by omega)] at hj
        exact h j hj
      · rw [List.getElem?_append_right (by omega), List.getElem?_append_right (by omega), l1, l2] at hj
        exact k _ hj
theorem has_cov : ∀ (d : Nat) {a b : T}, a.norm = true → b.norm = true → a.depth ≤ d → b.depth ≤ d → ((∀ j : Nat, (hasL d b)[j]? = some true → (hasL d a)[j]? = some true) ↔ a.cov b = true)
  | 0, a, b, _, _, ha, hb => by
    have e : (∀ j : Nat, (hasL 0 b)[j]? = some true → (hasL 0 a)[j]? = some true) ↔ (b.isO = true → a.isO = true) := by
      simp only [hasL]
      constructor
      · intro h hh
        have := h 0 (by simp [hh])
        simpa using this
      · intro h j hh
        cases j with
        | zero => simp at hh ⊢; exact h hh
        | succ j => simp at hh
    rw [e]
    cases a <;> cases b <;> simp_all [T.depth, T.isO, T.cov]
  | d + 1, a, b, na, nb, ha, hb => by
    rw [cov_halves na nb, Bool.and_eq_true, ← has_cov d (T.left_norm na) (T.left_norm nb) (T.left_depth1 ha) (T.left_depth1 hb), ← has_cov d (T.right_norm na) (T.right_norm nb) (T.right_depth1 ha) (T.right_depth1 hb)]
    simp only [hasL]
    have l1 := hasL_len d a.left
    have l2 := hasL_len d b.left
    constructor
    · intro h
      refine ⟨fun j hj => ?_, fun j hj => ?_⟩
      · have hlt : j < (hasL d b.left).length := (List.getElem?_eq_some_iff.1 hj).1
        have := h j (by rw [List.getElem?_append_left hlt]; exact hj)
        rwa [List.getElem?_append_left (by omega)] at this
      · have := h (2 ^ d + j) (by rw [List.getElem?_append_right (by omega), l2, Nat.add_sub_cancel_left]; exact hj)
        rwa [List.getElem?_append_right (by omega), l1, Nat.add_sub_cancel_left] at this
    · rintro ⟨h, k⟩ j hj
      by_cases hlt : j < 2 ^ d
      · rw [List.getElem?_append_left (by omega)] at hj ⊢
        exact h j hj
      · rw [List.getElem?_append_right (by omega), l2] at hj
        rw [List.getElem?_append_right (by omega), l1]
        exact k _ hj
/-- What either list has. -/
def orL (x y : List Bool) : List Bool := List.zipWith (fun a b => a || b) x y
theorem orL_len {x y : List Bool} (h : x.length = y.length) : (orL x y).length = x.length := by simp [orL, h]
theorem sum_halves {a b : T} (na : a.norm = true) (nb : b.norm = true) (h : a.disj b = true) : T.pair (a.left.sum b.left) (a.right.sum b.right) = a.sum b := by
  have pn : ∀ {t : T}, t.norm = true → T.pair t.left t.right = t := by
    intro t ht
    cases t with
    | z => rfl
    | o => rfl
    | n l r => exact pair_self ht
  cases a with
  | z => simp only [T.left, T.right, T.sum]; exact pn nb
  | o =>
    cases b with
    | z => rfl
    | o => simp [T.disj] at h
    | n l r => simp [T.disj] at h
  | n l r =>
    cases b with
    | z =>
      have e : ∀ t : T, t.sum .z = t := by intro t; cases t <;> rfl
      simp only [T.left, T.right, e]
      exact pn na
    | o => simp [T.disj] at h
    | n l' r' => rfl
theorem of_sum : ∀ (d : Nat) {a b : T}, a.norm = true → b.norm = true → a.depth ≤ d → b.depth ≤ d → a.disj b = true → ofL d (orL (hasL d a) (hasL d b)) = a.sum b
  | 0, a, b, _, _, ha, hb, h => by
    cases a <;> cases b <;> simp_all [T.depth, T.isO, T.disj, hasL, ofL, orL, T.sum]
  | d + 1, a, b, na, nb, ha, hb, h => by
    have h' := h
    rw [disj_halves na nb, Bool.and_eq_true] at h'
    have e1 := of_sum d (T.left_norm na) (T.left_norm nb) (T.left_depth1 ha) (T.left_depth1 hb) h'.1
    have e2 := of_sum d (T.right_norm na) (T.right_norm nb) (T.right_depth1 ha) (T.right_depth1 hb) h'.2
    have l1 := hasL_len d a.left
    have l2 := hasL_len d b.left
    have e3 : orL (hasL (d + 1) a) (hasL (d + 1) b) = orL (hasL d a.left) (hasL d b.left) ++ orL (hasL d a.right) (hasL d b.right) := by
      simp only [hasL, orL]
      exact List.zipWith_append (by omega)
    have l3 : (orL (hasL d a.left) (hasL d b.left)).length = 2 ^ d := by rw [orL_len (by omega), l1]
    rw [e3]
    simp only [ofL]
    rw [List.take_left' l3, List.drop_left' l3, e1, e2]
    exact sum_halves na nb h
theorem str_inj : ∀ (a b : T) (r s : List UInt8), a.str ++ r = b.str ++ s → a = b ∧ r = s
  | .z, .z, r, s, h => by simpa [T.str] using h
  | .o, .o, r, s, h => by simpa [T.str] using h
  | .z, .o, r, s, h => by simp [T.str] at h
  | .o, .z, r, s, h => by simp [T.str] at h
  | .z, .n l m, r, s, h => by simp [T.str] at h
  | .n l m, .z, r, s, h => by simp [T.str] at h
  | .o, .n l m, r, s, h => by simp [T.str] at h
  | .n l m, .o, r, s, h => by simp [T.str] at h
  | .n l m, .n l' m', r, s, h => by
    simp only [T.str, List.cons_append, List.cons.injEq, true_and, List.append_assoc] at h
    obtain ⟨rfl, h1⟩ := str_inj l l' _ _ h
    simp only [List.cons.injEq, true_and] at h1
    obtain ⟨rfl, h2⟩ := str_inj m m' _ _ h1
    simp only [List.cons_append, List.nil_append, List.cons.injEq, true_and] at h2
    exact ⟨rfl, h2⟩
theorem text_inj {a b : T} (h : a.text = b.text) : a = b := by
  rw [text_str, text_str] at h
  have h2 : a.str = b.str := by
    have := congrArg ByteArray.toList h
    rwa [bs_toList, bs_toList] at this
  exact (str_inj a b [] [] (by rw [h2])).1
theorem same_iff {a b : T} (na : a.norm = true) (nb : b.norm = true) : a.same b = true ↔ a = b := by
  constructor
  · intro h
    simp only [T.same, Bool.and_eq_true] at h
    rw [cov_iff na nb, cov_iff nb na] at h
    refine at_ext na nb (fun x => ?_)
    rw [Bool.eq_iff_iff]
    exact ⟨h.2 x, h.1 x⟩
  · rintro rfl
    exact T.same_refl a
theorem sum_comm {a b : T} (na : a.norm = true) (nb : b.norm = true) : b.sum a = a.sum b :=
  at_ext (sum_norm nb na) (sum_norm na nb) (fun x => by rw [sum_at, sum_at, Bool.or_comm])
theorem sum_depth : ∀ (a b : T), (a.sum b).depth ≤ max a.depth b.depth
  | .z, b => by simp [T.sum, T.depth]
  | .o, b => by simp [T.sum, T.depth]
  | .n a b, .z => by simp only [T.sum]; omega
  | .n a b, .o => by simp [T.sum, T.depth]
  | .n a b, .n c d => by
    have h1 := sum_depth a c
    have h2 := sum_depth b d
    have h3 := T.pair_depth (a.sum c) (b.sum d)
    simp only [T.sum, T.depth] at *
    omega
end Go.Proofs.Ytigkjmfkpmehlaa
