/- Trees of heights; what their weights over an id come to (the plain law). -/
import Derived.Test.YtigkjmfkpmehlaaShareKit
namespace Go.Proofs.Ytigkjmfkpmehlaa

/-- A tree of heights. -/
inductive Ev where
  | lf (m : Nat)
  | nd (m : Nat) (a b : Ev)
namespace Ev
def base : Ev → Nat | lf n => n | nd n _ _ => n
def isL : Ev → Bool | lf _ => true | nd .. => false
def depth : Ev → Nat | lf _ => 0 | nd _ a b => 1 + Nat.max a.depth b.depth
def top : Ev → Nat | lf n => n | nd n a b => n + Nat.max a.top b.top
def low : Ev → Nat | lf n => n | nd n a b => n + Nat.min a.low b.low
def add (k : Nat) : Ev → Ev | lf n => lf (n + k) | nd m a b => nd (m + k) a b
def sub (k : Nat) : Ev → Ev | lf n => lf (n - k) | nd m a b => nd (m - k) a b
/-- The halves, with the base. -/
def left : Ev → Ev | lf n => lf n | nd m a _ => a.add m
def right : Ev → Ev | lf n => lf n | nd m _ b => b.add m
/-- The halves, without. -/
def pl : Ev → Ev | lf _ => lf 0 | nd _ a _ => a
def pr : Ev → Ev | lf _ => lf 0 | nd _ _ b => b
/-- Are both leaves, alike? -/
def alike (a b : Ev) : Bool := a.isL && b.isL && a.base == b.base
def nf : Ev → Bool
  | lf _ => true
  | nd _ a b => a.nf && b.nf && (a.base == 0 || b.base == 0) && !alike a b
/-- In its one form. -/
def node (k : Nat) (a b : Ev) : Ev := if alike a b then lf (k + a.base) else nd (k + Nat.min a.low b.low) (a.sub (Nat.min a.low b.low)) (b.sub (Nat.min a.low b.low))
theorem nf_n {k : Nat} {a b : Ev} (h : (nd k a b).nf = true) : a.nf = true ∧ b.nf = true ∧ Nat.min a.base b.base = 0 ∧ alike a b = false := by
  simp only [nf, Bool.and_eq_true, Bool.or_eq_true, beq_iff_eq, Bool.not_eq_true'] at h
  obtain ⟨⟨⟨h1, h2⟩, h3⟩, h4⟩ := h
  refine ⟨h1, h2, ?_, h4⟩
  show min _ _ = 0
  omega
theorem nf_low : ∀ {e : Ev}, e.nf = true → e.low = e.base
  | lf _, _ => rfl
  | nd k a b, h => by
    obtain ⟨h1, h2, h3, _⟩ := nf_n h
    show k + Nat.min a.low b.low = k
    rw [nf_low h1, nf_low h2, h3, Nat.add_zero]
theorem sub_nf (e : Ev) (k : Nat) : (e.sub k).nf = e.nf := by cases e <;> rfl
theorem sub_base (e : Ev) (k : Nat) : (e.sub k).base = e.base - k := by cases e <;> rfl
theorem sub_isL (e : Ev) (k : Nat) : (e.sub k).isL = e.isL := by cases e <;> rfl
theorem sub_depth (e : Ev) (k : Nat) : (e.sub k).depth = e.depth := by cases e <;> rfl
theorem sub_top (e : Ev) (k : Nat) (h : k ≤ e.base) : (e.sub k).top + k = e.top := by
  cases e with
  | lf m =>
    simp only [base] at h
    simp only [sub, top]
    omega
  | nd m a b =>
    simp only [base] at h
    simp only [sub, top]
    omega
theorem sub_zero (e : Ev) : e.sub 0 = e := by cases e <;> rfl
theorem add_base (e : Ev) (k : Nat) : (e.add k).base = e.base + k := by cases e <;> rfl
theorem add_isL (e : Ev) (k : Nat) : (e.add k).isL = e.isL := by cases e <;> rfl
theorem add_depth (e : Ev) (k : Nat) : (e.add k).depth = e.depth := by cases e <;> rfl
theorem add_top (e : Ev) (k : Nat) : (e.add k).top = e.top + k := by cases e <;> simp only [add, top]; omega
theorem base_top (e : Ev) : e.base ≤ e.top := by cases e <;> simp only [base, top] <;> omega
theorem node_nf {k : Nat} {a b : Ev} (ha : a.nf = true) (hb : b.nf = true) : (node k a b).nf = true := by
  unfold node
  cases h : alike a b with
  | true => rw [if_pos rfl]; rfl
  | false =>
    rw [if_neg (by simp), nf_low ha, nf_low hb]
    have hm : Nat.min a.base b.base ≤ a.base ∧ Nat.min a.base b.base ≤ b.base ∧ (Nat.min a.base b.base = a.base ∨ Nat.min a.base b.base = b.base) := by
      show min _ _ ≤ _ ∧ min _ _ ≤ _ ∧ (min _ _ = _ ∨ min _ _ = _)
      omega
    generalize Nat.min a.base b.base = m at hm
    simp only [nf, sub_nf, ha, hb, Bool.true_and, sub_base, Bool.and_eq_true, Bool.or_eq_true, beq_iff_eq, Bool.not_eq_true']
    refine ⟨by omega, ?_⟩
    unfold alike at h ⊢
    rw [sub_isL, sub_isL, sub_base, sub_base]
    cases hl : a.isL with
    | false => rfl
    | true =>
      cases hr : b.isL with
      | false => rfl
      | true =>
        rw [hl, hr] at h
        simp only [Bool.true_and, beq_eq_false_iff_ne] at h ⊢
        omega
theorem node_top {k : Nat} {a b : Ev} (ha : a.nf = true) (hb : b.nf = true) : (node k a b).top ≤ k + Nat.max a.top b.top := by
  unfold node
  have h1 := base_top a
  have h2 := base_top b
  cases h : alike a b with
  | true =>
    rw [if_pos rfl]
    simp only [top]
    show _ ≤ k + max _ _
    omega
  | false =>
    rw [if_neg (by simp), nf_low ha, nf_low hb]
    simp only [top]
    have e : Nat.min a.base b.base = min a.base b.base := rfl
    have k1 := sub_top a (Nat.min a.base b.base) (by omega)
    have k2 := sub_top b (Nat.min a.base b.base) (by omega)
    show _ + max _ _ ≤ k + max _ _
    omega
theorem node_depth (k : Nat) (a b : Ev) : (node k a b).depth ≤ 1 + Nat.max a.depth b.depth := by
  unfold node
  split
  · simp [depth]
  · simp only [depth, sub_depth]
    exact Nat.le_refl _
end Ev
/-- What Make comes to. -/
def mkE : Nat → List Int → Ev × List Int
  | _, [] => (.lf 0, [])
  | 0, b :: t => (.lf (b / 4 % 8).toNat, t)
  | m + 1, b :: t => if b % 4 < 2 then (.lf (b / 4 % 8).toNat, t) else (Ev.node (b / 4 % 4).toNat (mkE m t).1 (mkE m (mkE m t).2).1, (mkE m (mkE m t).2).2)
theorem mkE_nf : ∀ (m : Nat) (ys : List Int), (mkE m ys).1.nf = true ∧ (mkE m ys).1.depth ≤ m ∧ (mkE m ys).1.top ≤ 7 + 3 * m
  | 0, [] => by simp [mkE, Ev.nf, Ev.depth, Ev.top]
  | _ + 1, [] => by simp [mkE, Ev.nf, Ev.depth, Ev.top]
  | 0, b :: t => by
    simp only [mkE]
    exact ⟨rfl, Nat.le_refl _, by simp only [Ev.top]; omega⟩
  | m + 1, b :: t => by
    simp only [mkE]
    split
    · exact ⟨rfl, Nat.zero_le _, by simp only [Ev.top]; omega⟩
    · obtain ⟨h1, d1, t1⟩ := mkE_nf m t
      obtain ⟨h2, d2, t2⟩ := mkE_nf m (mkE m t).2
      refine ⟨Ev.node_nf h1 h2, ?_, ?_⟩
      · have := Ev.node_depth (b / 4 % 4).toNat (mkE m t).1 (mkE m (mkE m t).2).1
        have e : Nat.max (mkE m t).1.depth (mkE m (mkE m t).2).1.depth = max (mkE m t).1.depth (mkE m (mkE m t).2).1.depth := rfl
        simp only
        omega
      · have := Ev.node_top (k := (b / 4 % 4).toNat) h1 h2
        have e : Nat.max (mkE m t).1.top (mkE m (mkE m t).2).1.top = max (mkE m t).1.top (mkE m (mkE m t).2).1.top := rfl
        simp only
        omega
theorem mkE_sub : ∀ (m : Nat) (ys : List Int), ∀ x ∈ (mkE m ys).2, x ∈ ys
  | 0, [] => by simp [mkE]
  | _ + 1, [] => by simp [mkE]
  | 0, b :: t => by simp [mkE]; intro x hx; exact .inr hx
  | m + 1, b :: t => by
    simp only [mkE]
    split
    · intro x hx
      exact List.mem_cons_of_mem _ hx
    · intro x hx
      exact List.mem_cons_of_mem _ (mkE_sub m t x (mkE_sub m _ x hx))
/-- Heights times how wide they are, over an id within 2 ^ d parts. -/
def wS : Nat → Ev → T → Nat
  | 0, e, i => if i.isO then e.base else 0
  | d + 1, e, i => if i.isZ then 0 else if i.isO && e.isL then e.base * 2 ^ (d + 1) else wS d e.left i.left + wS d e.right i.right
/-- And the greatest. -/
def wT : Nat → Ev → T → Nat
  | 0, e, i => if i.isO then e.base else 0
  | d + 1, e, i => if i.isZ then 0 else if i.isO && e.isL then e.base else Nat.max (wT d e.left i.left) (wT d e.right i.right)
theorem wS_z : ∀ (d : Nat) (e : Ev), wS d e .z = 0
  | 0, _ => rfl
  | _ + 1, _ => rfl
theorem wT_z : ∀ (d : Nat) (e : Ev), wT d e .z = 0
  | 0, _ => rfl
  | _ + 1, _ => rfl
theorem wS_o : ∀ (d n : Nat), wS d (.lf n) .o = n * 2 ^ d
  | 0, n => by simp [wS, T.isO, Ev.base]
  | d + 1, n => rfl
theorem wT_o : ∀ (d n : Nat), wT d (.lf n) .o = n
  | 0, _ => rfl
  | _ + 1, _ => rfl
theorem wS_half (d : Nat) (e : Ev) (i : T) : wS (d + 1) e i = wS d e.left i.left + wS d e.right i.right := by
  cases i with
  | z => simp only [T.left, T.right, wS_z]
  | o =>
    cases e with
    | lf n =>
      rw [wS_o]
      simp only [T.left, T.right, Ev.left, Ev.right, wS_o]
      rw [Nat.pow_succ, ← Nat.mul_assoc]
      omega
    | nd k a b => rfl
  | n x y => rfl
theorem wT_half (d : Nat) (e : Ev) (i : T) : wT (d + 1) e i = Nat.max (wT d e.left i.left) (wT d e.right i.right) := by
  cases i with
  | z => simp only [T.left, T.right, wT_z]; rfl
  | o =>
    cases e with
    | lf n =>
      rw [wT_o]
      simp only [T.left, T.right, Ev.left, Ev.right, wT_o]
      show _ = max _ _
      omega
    | nd k a b => rfl
  | n x y => rfl
theorem Ev.left_depth {e : Ev} {d : Nat} (h : e.depth ≤ d + 1) : e.left.depth ≤ d ∧ e.right.depth ≤ d := by
  cases e with
  | lf n => exact ⟨Nat.zero_le _, Nat.zero_le _⟩
  | nd k a b =>
    simp only [Ev.depth] at h
    have e : Nat.max a.depth b.depth = max a.depth b.depth := rfl
    simp only [Ev.left, Ev.right, Ev.add_depth]
    omega
theorem Ev.left_top (e : Ev) : e.left.top ≤ e.top ∧ e.right.top ≤ e.top := by
  cases e with
  | lf n => exact ⟨Nat.le_refl _, Nat.le_refl _⟩
  | nd k a b =>
    simp only [Ev.left, Ev.right, Ev.add_top, Ev.top]
    have e : Nat.max a.top b.top = max a.top b.top := rfl
    omega
theorem wS_le : ∀ (d : Nat) (e : Ev) (i : T), wS d e i ≤ e.top * 2 ^ d
  | 0, e, i => by
    have := e.base_top
    unfold wS
    split <;> omega
  | d + 1, e, i => by
    rw [wS_half, Nat.pow_succ, ← Nat.mul_assoc]
    have h1 := wS_le d e.left i.left
    have h2 := wS_le d e.right i.right
    have k := Ev.left_top e
    have m1 := Nat.mul_le_mul_right (2 ^ d) k.1
    have m2 := Nat.mul_le_mul_right (2 ^ d) k.2
    omega
theorem wT_le : ∀ (d : Nat) (e : Ev) (i : T), wT d e i ≤ e.top
  | 0, e, i => by
    have := e.base_top
    unfold wT
    split <;> omega
  | d + 1, e, i => by
    rw [wT_half]
    have h1 := wT_le d e.left i.left
    have h2 := wT_le d e.right i.right
    have k := Ev.left_top e
    show max _ _ ≤ _
    omega
/-- Over two that are apart they are, together, those over both. -/
theorem w_add : ∀ (d : Nat) (e : Ev) (s t u : T), s.depth ≤ d → t.depth ≤ d → u.depth ≤ d → (∀ x, u.at x = (s.at x || t.at x)) → (∀ x, ¬ (s.at x = true ∧ t.at x = true)) → wS d e u = wS d e s + wS d e t ∧ wT d e u = Nat.max (wT d e s) (wT d e t)
  | 0, e, s, t, u, hs, ht, hu, ha, hd => by
    have h1 := ha (fun _ => false)
    have h2 := hd (fun _ => false)
    have hz : ∀ v : T, v.depth ≤ 0 → v = .z ∨ v = .o := by
      intro v hv
      cases v with
      | z => exact .inl rfl
      | o => exact .inr rfl
      | n l r => simp [T.depth] at hv
    have m0 : ∀ n : Nat, Nat.max n 0 = n ∧ Nat.max 0 n = n := fun n => by
      constructor
      · show max n 0 = n
        omega
      · show max 0 n = n
        omega
    rcases hz s hs with rfl | rfl <;> rcases hz t ht with rfl | rfl <;> rcases hz u hu with rfl | rfl <;> simp_all [T.at, wS, wT, T.isO]
  | d + 1, e, s, t, u, hs, ht, hu, ha, hd => by
    rw [wS_half d e s, wS_half d e t, wS_half d e u, wT_half d e s, wT_half d e t, wT_half d e u]
    have h1 := w_add d e.left s.left t.left u.left (left_depth hs).1 (left_depth ht).1 (left_depth hu).1 (fun x => by rw [left_at, left_at, left_at]; exact ha _) (fun x => by rw [left_at, left_at]; exact hd _)
    have h2 := w_add d e.right s.right t.right u.right (left_depth hs).2 (left_depth ht).2 (left_depth hu).2 (fun x => by rw [right_at, right_at, right_at]; exact ha _) (fun x => by rw [right_at, right_at]; exact hd _)
    rw [h1.1, h1.2, h2.1, h2.2]
    refine ⟨by omega, ?_⟩
    show max (max _ _) (max _ _) = max (max _ _) (max _ _)
    omega
theorem w_split {i : T} (e : Ev) (d1 : i.split.1.depth ≤ 16) (d2 : i.split.2.depth ≤ 16) (d : i.depth ≤ 16) : wS 16 e i.split.1 + wS 16 e i.split.2 = wS 16 e i ∧ Nat.max (wT 16 e i.split.1) (wT 16 e i.split.2) = wT 16 e i := by
  have := w_add 16 e _ _ _ d1 d2 d (fun x => (split_at i x).1.symm) (fun x => (split_at i x).2)
  exact ⟨this.1.symm, this.2.symm⟩
theorem add_left (e : Ev) (k : Nat) : (e.add k).left = e.pl.add (k + e.base) ∧ (e.add k).right = e.pr.add (k + e.base) := by
  cases e with
  | lf n =>
    simp only [Ev.add, Ev.left, Ev.right, Ev.pl, Ev.pr, Ev.base, Nat.zero_add, Nat.add_zero, Nat.add_comm, and_self]
  | nd m a b =>
    simp only [Ev.add, Ev.left, Ev.right, Ev.pl, Ev.pr, Ev.base, Nat.add_comm, and_self]
end Go.Proofs.Ytigkjmfkpmehlaa
