/- A region that draws its order, by what holds of whatever is done: each operation is walked once. -/
import Derived.Test.YtigkjmfkpmehlaaSem
import Derived.RegionTactic
namespace Go.Proofs.Ytigkjmfkpmehlaa
open Go.RowKit

theorem getD_set (l : Array Bool) (i k : Nat) (d : Bool) (hi : i < l.size) : (l.setIfInBounds i true).getD k d = if k = i then true else l.getD k d := by
  simp only [Array.getD_eq_getD_getElem?, Array.getElem?_setIfInBounds]
  by_cases h : i = k
  · subst h
    simp [hi]
  · rw [if_neg h, if_neg (Ne.symm h)]
/-- How many are left. -/
def left (l : List Bool) : Nat := (l.filter (fun b => !b)).length
theorem left_set : ∀ (l : List Bool) (i : Nat), l[i]? = some false → left (l.set i true) + 1 = left l
  | [], i, h => by simp at h
  | b :: r, 0, h => by
    simp only [List.getElem?_cons_zero, Option.some.injEq] at h
    subst h
    simp [left]
  | b :: r, i + 1, h => by
    simp only [List.getElem?_cons_succ] at h
    have := left_set r i h
    unfold left at *
    rw [List.set_cons_succ, List.filter_cons, List.filter_cons]
    split <;> simp_all <;> omega
theorem wpAny_inv {P : Program} {ops : Array Oper} {Q : Exit → Act → World → Prop} {Inv : (Nat → Prop) → Act → World → Prop}
    (hext : ∀ (D E : Nat → Prop) (a : Act) (w : World), (∀ k, D k ↔ E k) → Inv D a w → Inv E a w)
    (hbelow : ∀ (i : Nat) (o : Oper), ops[i]? = some o → ∀ e ∈ o.after, e.on < i)
    (hstep : ∀ (i : Nat) (o : Oper), ops[i]? = some o → ∀ (D : Nat → Prop) (a : Act) (w : World), Inv D a w → ¬ D i → (∀ e ∈ o.after, Region.binds .any e = true → D e.on) →
      ∀ K : Act → World → Prop, (∀ a w, Inv (fun k => k = i ∨ D k) a w → K a w) → if Region.wanted o (yielded ops a.tmps) = true then Oper.wp P o a w K Q else K (a.put o.dst undef) w)
    (hdone : ∀ (D : Nat → Prop) (a : Act) (w : World), Inv D a w → (∀ i, i < ops.size → D i) → Q .normal a w) :
    ∀ (fuel : Nat) (listed : Array Bool) (a : Act) (w : World), listed.size = ops.size → left listed.toList ≤ fuel → Inv (fun k => listed.getD k false = true) a w → wpAny P .any ops Q fuel listed a w := by
  have hall : ∀ (listed : Array Bool), listed.size = ops.size → Region.ready .any ops listed = [] → ∀ i, i < ops.size → listed.getD i false = true := by
    intro listed hs hr i
    induction i using Nat.strongRecOn with
    | _ i ih =>
      intro hi
      cases hl : listed.getD i false with
      | true => rfl
      | false =>
        exfalso
        have hi' : i < listed.size := by omega
        have hmem : i ∈ Region.ready .any ops listed := by
          unfold Region.ready
          rw [List.mem_filter]
          refine ⟨List.mem_range.2 hi, ?_⟩
          have hl2 : listed.getD i true = false := by
            simp only [Array.getD_eq_getD_getElem?, Array.getElem?_eq_getElem hi', Option.getD_some] at hl ⊢
            exact hl
          rw [hl2]
          simp only [Bool.not_false, Bool.true_and]
          have hoi : ops[i]? = some ops[i] := Array.getElem?_eq_getElem hi
          rw [hoi]
          simp only [Option.map_some, Option.getD_some]
          rw [Array.all_eq_true']
          intro e he
          simp only [Bool.or_eq_true]
          right
          have hlt := hbelow i _ hoi e he
          exact ih e.on hlt (by omega)
        rw [hr] at hmem
        simp at hmem
  intro fuel
  induction fuel with
  | zero =>
    intro listed a w hs hf hI
    have hd : ∀ i, i < ops.size → listed.getD i false = true := by
      intro i hi
      have hi' : i < listed.size := by omega
      cases hl : listed.getD i false with
      | true => rfl
      | false =>
        exfalso
        have : listed.toList[i]? = some false := by
          rw [Array.getElem?_toList]
          simp only [Array.getD_eq_getD_getElem?, Array.getElem?_eq_getElem hi', Option.getD_some] at hl
          rw [Array.getElem?_eq_getElem hi', hl]
        have := left_set _ _ this
        omega
    refine ⟨?_, hdone _ _ _ hI hd⟩
    unfold Region.ready
    rw [List.filter_eq_nil_iff]
    intro i hi
    have hi := List.mem_range.1 hi
    have hi' : i < listed.size := by omega
    have hl := hd i hi
    have hl2 : listed.getD i true = true := by
      simp only [Array.getD_eq_getD_getElem?, Array.getElem?_eq_getElem hi', Option.getD_some] at hl ⊢
      exact hl
    rw [hl2]
    simp
  | succ fuel ih =>
    intro listed a w hs hf hI
    refine ⟨fun hr => hdone _ _ _ hI (hall listed hs hr), fun i hi => ?_⟩
    unfold Region.ready at hi
    rw [List.mem_filter] at hi
    obtain ⟨hi1, hi2⟩ := hi
    have hi1 := List.mem_range.1 hi1
    have hi' : i < listed.size := by omega
    have hoi : ops[i]? = some ops[i] := Array.getElem?_eq_getElem hi1
    rw [hoi] at hi2
    simp only [Bool.and_eq_true, Bool.not_eq_true', Option.map_some, Option.getD_some] at hi2
    obtain ⟨hl, hafter⟩ := hi2
    have hl0 : listed.getD i false = false := by
      simp only [Array.getD_eq_getD_getElem?, Array.getElem?_eq_getElem hi', Option.getD_some] at hl ⊢
      exact hl
    refine wpOp_step hoi fun K hK => ?_
    refine hstep i _ hoi _ a w hI (by simp [hl0]) (fun e he hb => ?_) K (fun a' w' hI' => hK a' w' (ih _ a' w' (by simp [hs]) ?_ ?_))
    · rw [Array.all_eq_true'] at hafter
      have := hafter e he
      simpa [hb] using this
    · have h1 : listed.toList[i]? = some false := by
        rw [Array.getElem?_toList]
        simp only [Array.getD_eq_getD_getElem?, Array.getElem?_eq_getElem hi', Option.getD_some] at hl
        rw [Array.getElem?_eq_getElem hi', hl]
      have := left_set _ _ h1
      rw [Array.toList_setIfInBounds]
      omega
    · refine hext _ _ _ _ (fun k => ?_) hI'
      rw [getD_set _ _ _ _ hi']
      by_cases hk : k = i
      · simp [hk]
      · simp [hk]
theorem left_rep : ∀ n : Nat, left (List.replicate n false) = n
  | 0 => rfl
  | n + 1 => by
    have := left_rep n
    unfold left at *
    simp_all
/-- The rule. -/
theorem region_inv {P : Program} {l : List Oper} {id : Nat} {a : Act} {w : World} {Q : Exit → Act → World → Prop} (Inv : (Nat → Prop) → Act → World → Prop) (hm : P.follows .mixedOrders = true)
    (hext : ∀ (D E : Nat → Prop) (a : Act) (w : World), (∀ k, D k ↔ E k) → Inv D a w → Inv E a w)
    (hbelow : (List.range l.length).all (fun i => match l[i]? with | some o => o.after.all (fun e => decide (e.on < i)) | none => true) = true)
    (h0 : Inv (fun _ => False) a w.drew)
    (hdone : ∀ (D : Nat → Prop) (a : Act) (w : World), Inv D a w → (∀ i, i < l.length → D i) → Q .normal a w)
    (hstep : ∀ (i : Nat) (o : Oper), l[i]? = some o → ∀ (D : Nat → Prop) (a : Act) (w : World), Inv D a w → ¬ D i → (∀ e ∈ o.after, Region.binds .any e = true → D e.on) →
      ∀ K : Act → World → Prop, (∀ a w, Inv (fun k => k = i ∨ D k) a w → K a w) → if Region.wanted o (yielded l.toArray a.tmps) = true then Oper.wp P o a w K Q else K (a.put o.dst undef) w) :
    (Code.region id l.toArray true).wp P Q a w := by
  refine wp_region_any hm ?_
  refine wpAny_inv (Inv := Inv) hext ?_ ?_ ?_ _ _ _ _ (by simp) ?_ ?_
  · intro i o ho e he
    have hi : i < l.length := by
      have : i < l.toArray.size := by
        rcases Nat.lt_or_ge i l.toArray.size with h | h
        · exact h
        · rw [Array.getElem?_eq_none h] at ho
          simp at ho
      simpa using this
    have := List.all_eq_true.1 hbelow i (List.mem_range.2 hi)
    have ho' : l[i]? = some o := by simpa using ho
    rw [ho'] at this
    simp only [Array.all_eq_true'] at this
    exact of_decide_eq_true (this e he)
  · intro i o ho
    exact hstep i o (by simpa using ho)
  · intro D a w hI hD
    exact hdone D a w hI (fun i hi => hD i (by simpa using hi))
  · have := left_rep l.toArray.size
    simp only [Array.toList_replicate]
    omega
  · refine hext _ _ _ _ (fun k => ?_) h0
    simp only [Array.getD_eq_getD_getElem?, Array.getElem?_replicate]
    split <;> simp
end Go.Proofs.Ytigkjmfkpmehlaa
