/- Rows of ids. -/
import Derived.Test.YtigkjmfkpmehlaaSharesLaw
import Derived.Laws.OwnMore
namespace Go.Proofs.Ytigkjmfkpmehlaa
open Go.RowKit

/-- The cells of a row of ids. -/
def cellsOf : List (Bool × Option Addr) → List Value
  | [] => []
  | p :: r => .bool p.1 :: .pointer p.2 :: cellsOf r
theorem cellsOf_len : ∀ vs : List (Bool × Option Addr), (cellsOf vs).length = vs.length * 2
  | [] => rfl
  | p :: r => by simp only [cellsOf, List.length_cons]; rw [cellsOf_len r]; omega
theorem cellsOf_0 : ∀ (vs : List (Bool × Option Addr)) (i : Nat), (cellsOf vs)[i * 2]? = (vs[i]?).map (fun p => .bool p.1)
  | [], i => by simp [cellsOf]
  | p :: r, 0 => by simp [cellsOf]
  | p :: r, i + 1 => by
    rw [show (i + 1) * 2 = i * 2 + 1 + 1 by omega]
    simp only [cellsOf, List.getElem?_cons_succ]
    exact cellsOf_0 r i
theorem cellsOf_1 : ∀ (vs : List (Bool × Option Addr)) (i : Nat), (cellsOf vs)[i * 2 + 1]? = (vs[i]?).map (fun p => .pointer p.2)
  | [], i => by simp [cellsOf]
  | p :: r, 0 => by simp [cellsOf]
  | p :: r, i + 1 => by
    rw [show (i + 1) * 2 + 1 = i * 2 + 1 + 1 + 1 by omega]
    simp only [cellsOf, List.getElem?_cons_succ]
    exact cellsOf_1 r i
theorem cellsOf_append : ∀ (vs : List (Bool × Option Addr)) (p : Bool × Option Addr), cellsOf (vs ++ [p]) = cellsOf vs ++ [.bool p.1, .pointer p.2]
  | [], p => rfl
  | q :: r, p => by simp only [List.cons_append, cellsOf]; rw [cellsOf_append r p]
theorem cellsOf_set : ∀ (vs : List (Bool × Option Addr)) (k : Nat) (p : Bool × Option Addr), cellsOf (vs.set k p) = ((cellsOf vs).set (k * 2) (.bool p.1)).set (k * 2 + 1) (.pointer p.2)
  | [], k, p => by simp [cellsOf]
  | q :: r, 0, p => by simp [cellsOf]
  | q :: r, k + 1, p => by
    rw [show (k + 1) * 2 = k * 2 + 1 + 1 by omega]
    simp only [cellsOf, List.set_cons_succ]
    rw [cellsOf_set r k p]
/-- A slice of ids that the walk owns. -/
def RowT (w : World) (base : Nat) (v : Value) (L : List T) : Prop :=
  ∃ vs : List (Bool × Option Addr), vs.length = L.length ∧ w.ownsRow base 31 2 v L.length (cellsOf vs) ∧ ∀ (i : Nat) (t : T) (p : Bool × Option Addr), L[i]? = some t → vs[i]? = some p → IDV w t (.agg #[.bool p.1, .pointer p.2])
theorem RowT.slice {w : World} {base : Nat} {v : Value} {L : List T} (h : RowT w base v L) (hl : 1 ≤ L.length) : ∃ g cap, v = .slice (some ⟨g, 0, none⟩) L.length cap ∧ base ≤ g ∧ g < w.heap.size := by
  obtain ⟨vs, _, h, _⟩ := h
  rcases h.2 with ⟨_, h0⟩ | ⟨g, cap, cur, rfl, hb, hg, _⟩
  · omega
  · exact ⟨g, cap, rfl, hb, blk_lt hg⟩
/-- One of them. -/
theorem RowT.get {w : World} {base : Nat} {g cap : Nat} {L : List T} {n : Nat} (h : RowT w base (.slice (some ⟨g, 0, none⟩) n cap) L) {k : Nat} (hk : k < L.length) (hn : n = L.length) : ∃ t o q, L[k]? = some t ∧ w.cell? ⟨g, k * 2, none⟩ = some (.bool o) ∧ w.cell? ⟨g, k * 2 + 1, none⟩ = some (.pointer q) ∧ IDV w t (.agg #[.bool o, .pointer q]) := by
  subst hn
  obtain ⟨vs, hl, h, hi⟩ := h
  have hkv : k < vs.length := by omega
  refine ⟨L[k], vs[k].1, vs[k].2, List.getElem?_eq_getElem hk, ?_, ?_, hi k _ _ (List.getElem?_eq_getElem hk) (List.getElem?_eq_getElem hkv)⟩
  · rw [h.cellAt (k * 2) (by omega), cellsOf_0, List.getElem?_eq_getElem hkv]
    rfl
  · rw [h.cellAt (k * 2 + 1) (by omega), cellsOf_1, List.getElem?_eq_getElem hkv]
    rfl
theorem RowT.below {w w' : World} {base : Nat} {v : Value} {L : List T} (h : RowT w base v L) (hb : Below w.heap.size w w') : RowT w' base v L := by
  obtain ⟨vs, hl, h, hi⟩ := h
  exact ⟨vs, hl, h.kept (row := none) ⟨hb.os, hb.tape, hb.output, hb.size, fun k hk _ => hb.block k hk⟩ (by cases hv : v.ownBlock with | none => exact .inl rfl | some g => exact .inr (by simp)), fun i t p a b => (hi i t p a b).below hb⟩
theorem RowT.frozen {w : World} {base : Nat} {g cap : Nat} {L : List T} {n : Nat} (h : RowT w base (.slice (some ⟨g, 0, none⟩) n cap) L) (hn : n = L.length) (j : Nat) : w.frozen? ⟨g, j, none⟩ = false := by
  subst hn
  obtain ⟨vs, hl, h, hi⟩ := h
  exact h.frozenAt j
theorem kp_grown {w w' : World} {base : Nat} {v : Value} {n : Nat} {xs : List Value} (h : w.ownsRow base 31 2 v n xs) (hg : w.grownBy w' v.ownBlock) : Kp w w' := fun b cs hb => by
  refine (hg.block b (blk_lt hb) ?_).trans hb
  intro hv
  rcases h.2 with ⟨rfl, _⟩ | ⟨g, cap, cur, rfl, _, hgg, _⟩
  · simp [Value.ownBlock] at hv
  · simp only [Value.ownBlock, Option.some.injEq] at hv
    subst hv
    have := hb.symm.trans hgg
    simp at this
/-- A store of an id at a place. -/
theorem RowT.set {w : World} {base : Nat} {g cap : Nat} {L : List T} {n k : Nat} (h : RowT w base (.slice (some ⟨g, 0, none⟩) n cap) L) (hn : n = L.length) {t : T} {o : Bool} {q : Option Addr} (ht : IDV w t (.agg #[.bool o, .pointer q])) :
    RowT ((w.setCell ⟨g, k * 2, none⟩ (.bool o)).setCell ⟨g, k * 2 + 1, none⟩ (.pointer q)) base (.slice (some ⟨g, 0, none⟩) n cap) (L.set k t) ∧ Kp w ((w.setCell ⟨g, k * 2, none⟩ (.bool o)).setCell ⟨g, k * 2 + 1, none⟩ (.pointer q)) := by
  subst hn
  obtain ⟨vs, hl, h, hi⟩ := h
  obtain ⟨h1, g1⟩ := h.stored (k * 2) (.bool o)
  obtain ⟨h2, g2⟩ := h1.stored (k * 2 + 1) (.pointer q)
  have k1 := kp_grown h g1
  have k2 := kp_grown h1 g2
  have kk := k1.trans k2
  refine ⟨⟨vs.set k (o, q), by simp [hl], ?_, fun i t' p hi1 hi2 => ?_⟩, kk⟩
  · rw [cellsOf_set, List.length_set]
    exact h2
  · rw [List.getElem?_set] at hi1 hi2
    split at hi1
    · rename_i hki
      rw [if_pos hki] at hi2
      split at hi1
      · rename_i hlt
        rw [if_pos (by omega)] at hi2
        simp only [Option.some.injEq] at hi1 hi2
        subst hi1
        subst hi2
        exact ht.kp kk
      · simp at hi1
    · rename_i hki
      rw [if_neg hki] at hi2
      exact (hi i t' p hi1 hi2).kp kk
theorem RowT.append {w w' : World} {base : Nat} {v v' : Value} {L : List T} {vs : List (Bool × Option Addr)} (hl : vs.length = L.length) (h : w.ownsRow base 31 2 v L.length (cellsOf vs)) (hi : ∀ (i : Nat) (t : T) (p : Bool × Option Addr), L[i]? = some t → vs[i]? = some p → IDV w t (.agg #[.bool p.1, .pointer p.2])) {t : T} {o : Bool} {q : Option Addr} (ht : IDV w t (.agg #[.bool o, .pointer q]))
    (hown : w'.ownsRow base 31 2 v' (L.length + 1) (cellsOf vs ++ [.bool o, .pointer q])) (hg : w.grownBy w' v.ownBlock) : RowT w' base v' (L ++ [t]) := by
  have kk := kp_grown h hg
  refine ⟨vs ++ [(o, q)], by simp [hl], ?_, fun i t' p h1 h2 => ?_⟩
  · rw [cellsOf_append, List.length_append]
    exact hown
  · rw [List.getElem?_append] at h1 h2
    split at h1
    · rename_i hlt
      rw [if_pos (by omega)] at h2
      exact (hi i t' p h1 h2).kp kk
    · rename_i hlt
      rw [if_neg (by omega)] at h2
      have h3 : i - L.length = 0 := by
        cases hh : i - L.length with
        | zero => rfl
        | succ m => rw [hh] at h1; simp at h1
      rw [h3] at h1
      rw [hl, h3] at h2
      simp only [List.getElem?_cons_zero, Option.some.injEq] at h1 h2
      subst h1
      subst h2
      exact ht.kp kk
theorem RowT.one (w : World) {o : Bool} {q : Option Addr} {t : T} {base : Nat} (hb : base ≤ w.heap.size) (ht : IDV w t (.agg #[.bool o, .pointer q])) : RowT (w.alloc (.cells #[.bool o, .pointer q] 31)) base (.slice (some ⟨w.heap.size, 0, none⟩) 1 1) [t] :=
  ⟨[(o, q)], rfl, World.ownsRow_lit w #[.bool o, .pointer q] 1 hb (by unfold maxLen; omega) rfl, fun i t' p h1 h2 => by
    cases i with
    | zero =>
      simp only [List.getElem?_cons_zero, Option.some.injEq] at h1 h2
      subst h1
      subst h2
      exact ht.alloc _
    | succ m => simp at h1⟩
end Go.Proofs.Ytigkjmfkpmehlaa
