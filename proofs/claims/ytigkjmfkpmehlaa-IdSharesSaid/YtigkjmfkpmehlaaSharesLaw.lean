/- The plain law of IdShares: parts that are split again and again are apart, and together all. -/
import Derived.Test.YtigkjmfkpmehlaaHalvesWalk
namespace Go.Proofs.Ytigkjmfkpmehlaa

/-- How many of a list have a point. -/
def cnt : List T → (Nat → Bool) → Nat
  | [], _ => 0
  | t :: L, x => (if t.at x = true then 1 else 0) + cnt L x
theorem cnt_append : ∀ (L M : List T) (x : Nat → Bool), cnt (L ++ M) x = cnt L x + cnt M x
  | [], M, x => by simp [cnt]
  | t :: L, M, x => by
    simp only [List.cons_append, cnt]
    rw [cnt_append L M x]
    omega
theorem cnt_set : ∀ (L : List T) (k : Nat) (t a : T) (x : Nat → Bool), L[k]? = some t → cnt (L.set k a) x + (if t.at x = true then 1 else 0) = cnt L x + (if a.at x = true then 1 else 0)
  | [], k, t, a, x, h => by simp at h
  | u :: L, 0, t, a, x, h => by
    simp only [List.getElem?_cons_zero, Option.some.injEq] at h
    subst h
    simp only [List.set_cons_zero, cnt]
    omega
  | u :: L, k + 1, t, a, x, h => by
    simp only [List.getElem?_cons_succ] at h
    have := cnt_set L k t a x h
    simp only [List.set_cons_succ, cnt]
    omega
theorem cnt_mem : ∀ (L : List T) (k : Nat) (t : T) (x : Nat → Bool), L[k]? = some t → t.at x = true → 1 ≤ cnt L x
  | [], k, t, x, h, _ => by simp at h
  | u :: L, 0, t, x, h, ht => by
    simp only [List.getElem?_cons_zero, Option.some.injEq] at h
    subst h
    simp only [cnt, ht, if_true]
    omega
  | u :: L, k + 1, t, x, h, ht => by
    simp only [List.getElem?_cons_succ] at h
    have := cnt_mem L k t x h ht
    simp only [cnt]
    omega
theorem cnt_two : ∀ (L : List T) (i j : Nat) (s t : T) (x : Nat → Bool), i < j → L[i]? = some s → L[j]? = some t → s.at x = true → t.at x = true → 2 ≤ cnt L x
  | [], i, j, s, t, x, _, h, _, _, _ => by simp at h
  | u :: L, 0, j + 1, s, t, x, _, h, k, hs, ht => by
    simp only [List.getElem?_cons_zero, Option.some.injEq] at h
    subst h
    simp only [List.getElem?_cons_succ] at k
    have := cnt_mem L j t x k ht
    simp only [cnt, hs, if_true]
    omega
  | u :: L, i + 1, j + 1, s, t, x, hij, h, k, hs, ht => by
    simp only [List.getElem?_cons_succ] at h k
    have := cnt_two L i j s t x (by omega) h k hs ht
    simp only [cnt]
    omega
  | u :: L, i, 0, s, t, x, hij, _, _, _, _ => by omega
/-- Parts of the whole. -/
structure Parts (L : List T) : Prop where
  each : ∀ t ∈ L, t.norm = true ∧ t ≠ .z ∧ t.depth ≤ 16
  one : ∀ x, cnt L x = 1
theorem Parts.init : Parts [.o] := ⟨fun t h => by simp at h; subst h; exact ⟨rfl, by simp, by simp [T.depth]⟩, fun x => by simp [cnt, T.at]⟩
theorem Parts.len {L : List T} (h : Parts L) : 1 ≤ L.length := by
  have := h.one (fun _ => false)
  cases L with
  | nil => simp [cnt] at this
  | cons a b => simp
theorem Parts.step {L : List T} (h : Parts L) {k : Nat} {t : T} (hk : L[k]? = some t) (hd : max t.split.1.depth t.split.2.depth ≤ 16) : Parts (L.set k t.split.1 ++ [t.split.2]) := by
  have ht := h.each t (List.mem_of_getElem? hk)
  have hn := split_norm ht.1
  have hz := split_nz ht.1 ht.2.1
  refine ⟨fun u hu => ?_, fun x => ?_⟩
  · rw [List.mem_append] at hu
    rcases hu with hu | hu
    · rcases List.mem_or_eq_of_mem_set hu with hu | rfl
      · exact h.each u hu
      · exact ⟨hn.1, hz.1, by omega⟩
    · simp only [List.mem_singleton] at hu
      subst hu
      exact ⟨hn.2, hz.2, by omega⟩
  · have h1 := cnt_set L k t t.split.1 x hk
    have h2 := split_at t x
    have h3 := h.one x
    rw [cnt_append]
    simp only [cnt]
    rw [h3] at h1
    obtain ⟨h2a, h2b⟩ := h2
    rw [← h2a] at h1
    cases ha : t.split.1.at x with
    | true =>
      have hb : t.split.2.at x = false := by
        cases hb : t.split.2.at x with
        | false => rfl
        | true => exact absurd ⟨ha, hb⟩ h2b
      rw [ha, hb] at h1
      rw [hb]
      simp at h1 ⊢
      omega
    | false =>
      cases hb : t.split.2.at x with
      | true =>
        rw [ha, hb] at h1
        simp at h1 ⊢
        omega
      | false =>
        rw [ha, hb] at h1
        simp at h1 ⊢
        omega
theorem Parts.apart {L : List T} (h : Parts L) {i j : Nat} {s t : T} (hij : i < j) (hi : L[i]? = some s) (hj : L[j]? = some t) : t.disj s = true := by
  rw [disj_iff (h.each t (List.mem_of_getElem? hj)).1 (h.each s (List.mem_of_getElem? hi)).1]
  rintro x ⟨h1, h2⟩
  have := cnt_two L i j s t x hij hi hj h2 h1
  have := h.one x
  omega
/-- The sum of the first ones. -/
def pre : T → List T → T
  | a, [] => a
  | a, t :: L => pre (a.sum t) L
theorem pre_snoc : ∀ (a : T) (L : List T) (t : T), pre a (L ++ [t]) = (pre a L).sum t
  | a, [], t => rfl
  | a, u :: L, t => by simp only [List.cons_append, pre]; exact pre_snoc _ L t
theorem pre_norm : ∀ (a : T) (L : List T), a.norm = true → (∀ t ∈ L, t.norm = true) → (pre a L).norm = true
  | _, [], h, _ => h
  | a, u :: L, h, k => pre_norm (a.sum u) L (sum_norm h (k u (by simp))) (fun t ht => k t (List.mem_cons_of_mem _ ht))
theorem pre_at : ∀ (a : T) (L : List T) (x : Nat → Bool), (pre a L).at x = true ↔ (a.at x = true ∨ 1 ≤ cnt L x)
  | a, [], x => by simp [pre, cnt]
  | a, u :: L, x => by
    simp only [pre, cnt]
    rw [pre_at, sum_at, Bool.or_eq_true]
    by_cases h2 : u.at x = true
    · simp only [h2, if_true]
      constructor
      · intro _
        exact .inr (by omega)
      · intro _
        exact .inl (.inr trivial)
    · simp only [h2, if_false, or_false, Bool.false_eq_true, Nat.zero_add]
theorem take_snoc {L : List T} {i : Nat} {t : T} (hi : L[i]? = some t) : L.take (i + 1) = L.take i ++ [t] := by
  rw [List.take_add_one, hi]
  rfl
theorem Parts.sum {L : List T} (h : Parts L) {i : Nat} {t : T} (hi : L[i]? = some t) : sumR (pre .z (L.take i)) t = (pre .z (L.take (i + 1)), 0) := by
  have hn : (pre .z (L.take i)).norm = true := pre_norm _ _ rfl (fun u hu => (h.each u (List.mem_of_mem_take hu)).1)
  have hd : (pre .z (L.take i)).disj t = true := by
    rw [disj_iff hn (h.each t (List.mem_of_getElem? hi)).1]
    rintro x ⟨h1, h2⟩
    rw [pre_at] at h1
    have h1 := h1.resolve_left (by simp [T.at])
    have h3 := cnt_append (L.take i) (L.drop i) x
    rw [List.take_append_drop, h.one x] at h3
    have h4 : (L.drop i)[0]? = some t := by rw [List.getElem?_drop]; simpa using hi
    have := cnt_mem (L.drop i) 0 t x h4 h2
    omega
  unfold sumR
  rw [if_pos hd, take_snoc hi, pre_snoc]
theorem Parts.whole {L : List T} (h : Parts L) : pre .z L = .o := by
  refine at_ext (pre_norm _ _ rfl (fun u hu => (h.each u hu).1)) rfl (fun x => ?_)
  show _ = true
  rw [pre_at, h.one x]
  exact .inr (Nat.le_refl _)
/-- What Split comes to, at a part: two parts; or it is as deep as may be. -/
theorem Parts.split {L : List T} (h : Parts L) {k : Nat} {t : T} (hk : L[k]? = some t) : (splitR t = (t.split.1, t.split.2, 0) ∧ max t.split.1.depth t.split.2.depth ≤ 16) ∨ (splitR t = (.z, .z, 3) ∧ t.depth = 16) := by
  unfold splitR
  by_cases hd : max t.split.1.depth t.split.2.depth ≤ 16
  · rw [if_pos hd]
    exact .inl ⟨rfl, hd⟩
  · rw [if_neg hd]
    have h1 := T.split_depth t
    have h2 := (h.each t (List.mem_of_getElem? hk)).2.2
    exact .inr ⟨rfl, by omega⟩
end Go.Proofs.Ytigkjmfkpmehlaa
