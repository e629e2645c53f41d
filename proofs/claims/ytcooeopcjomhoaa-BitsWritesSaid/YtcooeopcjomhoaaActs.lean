/- An argument that is a slice of acts, opened. -/
import Derived.Test.YtcooeopcjomhoaaReadsWalk
import Derived.Deep.Slices
import Derived.Deep.Fields
import Derived.ChangeSame
import Derived.OpenShut
import Derived.ProofKit
import Derived.Below
namespace Go.Proofs.Ytcooeopcjomhoaa
open Go.RowKit Go.ChangeShapes Go.WideShapes Go.Deep Plain

theorem list_of {α : Type} (d0 : α) (Q : Nat → α → Prop) : ∀ n : Nat, (∀ i, i < n → ∃ t, Q i t) → ∃ l : List α, l.length = n ∧ ∀ i, i < n → Q i (l.getD i d0)
  | 0, _ => ⟨[], rfl, fun i hi => by omega⟩
  | n + 1, h => by
    obtain ⟨l, hl, hq⟩ := list_of d0 Q n (fun i hi => h i (by omega))
    obtain ⟨t, ht⟩ := h n (by omega)
    refine ⟨l ++ [t], by simp [hl], fun i hi => ?_⟩
    by_cases hn : i = n
    · subst hn
      rw [List.getD_eq_getElem?_getD, List.getElem?_append_right (by omega), hl]
      simpa using ht
    · have := hq i (by omega)
      rw [List.getD_eq_getElem?_getD, List.getElem?_append_left (by omega), ← List.getD_eq_getElem?_getD]
      exact this

/-- What the walk is told of acts that came in. -/
def IsActs (w : World) (a : Option Addr) (len : Nat) (acts : List (Int × Int × Int)) : Prop :=
  acts.length = len ∧ len ≤ maxLen ∧ (∀ i, i < len → (Lit.int .u8 (acts.getD i (0, 0, 0)).1).wf = true ∧ (Lit.int .u64 (acts.getD i (0, 0, 0)).2.1).wf = true ∧ (Lit.int .i64 (acts.getD i (0, 0, 0)).2.2).wf = true) ∧
    (len = 0 ∨ ∃ x, a = some x ∧ ∀ i, i < len → w.cell? (x.add (i * 3)) = some (.int .u8 (acts.getD i (0, 0, 0)).1) ∧ w.cell? (x.add (i * 3 + 1)) = some (.int .u64 (acts.getD i (0, 0, 0)).2.1) ∧ w.cell? (x.add (i * 3 + 2)) = some (.int .i64 (acts.getD i (0, 0, 0)).2.2))

theorem Try.cells46 : Try.prog.cellsOf 46 = 3 := by kernel_rfl
theorem Try.cells5 : Try.prog.cellsOf 5 = 1 := by kernel_rfl
theorem Try.cells22 : Try.prog.cellsOf 22 = 1 := by kernel_rfl
theorem Try.cells3 : Try.prog.cellsOf 3 = 1 := by kernel_rfl

theorem open_act {H : Type} {enc : TypeId × Value → H} {w : World} {base : Nat} {spare : Nat → Bool} {held : Bool} {fuel : Nat} {x : DataW H × List MemPlace} {a : Addr} {cs : List Value}
    (hc : w.cells? base a 3 = some cs) (h : DataW.trod enc Try.prog w base spare held fuel 46 cs = some x) :
    ∃ t : Int × Int × Int, ((Lit.int .u8 t.1).wf = true ∧ (Lit.int .u64 t.2.1).wf = true ∧ (Lit.int .i64 t.2.2).wf = true) ∧ w.cell? a = some (.int .u8 t.1) ∧ w.cell? (a.add 1) = some (.int .u64 t.2.1) ∧ w.cell? (a.add 2) = some (.int .i64 t.2.2) := by
  obtain ⟨_, hl, hat⟩ := World.cells?_some hc
  obtain ⟨ys, n, _, _, _, hyl, hf⟩ := DataW.trod_struct Try.underlying46 h
  match cs, hl with
  | [c0, c1, c2], _ =>
    match ys, hyl with
    | [y0, y1, y2], _ =>
      have h0 := hf 0 _ rfl
      have h1 := hf 1 _ rfl
      have h2 := hf 2 _ rfl
      simp [Try.cells5, Try.cells22, Try.cells3] at h0 h1 h2
      obtain ⟨v0, e0, _, w0⟩ := DataW.trod_int Try.underlying5 h0
      obtain ⟨v1, e1, _, w1⟩ := DataW.trod_int Try.underlying22 h1
      obtain ⟨v2, e2, _, w2⟩ := DataW.trod_int Try.underlying3 h2
      have a0 := hat 0 (by omega)
      have a1 := hat 1 (by omega)
      have a2 := hat 2 (by omega)
      simp only [List.cons.injEq, and_true] at e0 e1 e2
      subst e0 e1 e2
      exact ⟨(v0, v1, v2), ⟨w0, w1, w2⟩, by simpa [Addr.add] using a0, a1, a2⟩

theorem open_acts {H : Type} {enc : TypeId × Value → H} {w : World} {base : Nat} {held : Bool} {fuel : Nat} {x : DataW H × List MemPlace} {a : Option Addr} {len cap : Nat}
    (h : DataW.trod enc Try.prog w base (fun _ => true) held fuel 39 [.slice a len cap] = some x) : len ≤ cap ∧ ∃ acts, IsActs w a len acts := by
  rcases open_slice Try.underlying39 h with ⟨hcs, _⟩ | ⟨x0, l, c, m, n, D, Pl, hcs, _, hlc, hcm, hm, _, hi⟩
  · simp at hcs
    obtain ⟨rfl, rfl, rfl⟩ := hcs
    exact ⟨Nat.le_refl _, [], rfl, by decide, fun i hi => by omega, .inl rfl⟩
  · simp at hcs
    obtain ⟨rfl, rfl, rfl⟩ := hcs
    simp only [if_true] at hm
    subst hm
    rw [Try.cells46] at hi
    obtain ⟨acts, hl, hq⟩ := list_of (0, 0, 0) (fun i (t : Int × Int × Int) => ((Lit.int .u8 t.1).wf = true ∧ (Lit.int .u64 t.2.1).wf = true ∧ (Lit.int .i64 t.2.2).wf = true) ∧ w.cell? (x0.add (i * 3)) = some (.int .u8 t.1) ∧ w.cell? (x0.add (i * 3 + 1)) = some (.int .u64 t.2.1) ∧ w.cell? (x0.add (i * 3 + 2)) = some (.int .i64 t.2.2)) len (fun i hil => by
      obtain ⟨cs', hc, ht⟩ := hi i (by omega)
      obtain ⟨t, h1, h2, h3, h4⟩ := open_act hc ht
      exact ⟨t, h1, h2, by rw [← Go.Deep.add_add]; exact h3, by rw [← Go.Deep.add_add]; exact h4⟩)
    exact ⟨hlc, acts, hl, by omega, fun i hi => (hq i hi).1, .inr ⟨_, rfl, fun i hi => (hq i hi).2⟩⟩

theorem inA_of {w : World} {a : Option Addr} {len cap : Nat} {acts : List (Int × Int × Int)} (hcap : len ≤ cap) (h : IsActs w a len acts) : InA w (.slice a len cap) acts := by
  obtain ⟨hl, _, _, h0 | ⟨x, rfl, hc⟩⟩ := h
  · subst h0
    exact .inl ⟨List.eq_nil_of_length_eq_zero hl, _, _, rfl⟩
  · by_cases hz : len = 0
    · subst hz
      exact .inl ⟨List.eq_nil_of_length_eq_zero hl, _, _, rfl⟩
    · have hc0 := (hc 0 (by omega)).1
      obtain ⟨b, off, sp⟩ := x
      have hsp : sp = none := by
        cases sp with
        | none => rfl
        | some s =>
          exfalso
          revert hc0
          unfold World.cell? Addr.add
          split <;> simp
      subst hsp
      rw [Addr.add_lit] at hc0
      refine .inr ⟨b, off, cap, by rw [hl], by omega, World.block_lt_of_cell? w _ hc0, fun i hi => ?_⟩
      have := hc i (by omega)
      rw [Addr.add_lit, Addr.add_lit, Addr.add_lit] at this
      exact this
theorem acts_bounds {w : World} {a : Option Addr} {len : Nat} {acts : List (Int × Int × Int)} (h : IsActs w a len acts) :
    (∀ x ∈ acts, 0 ≤ x.1 ∧ x.1 ≤ 255) ∧ (∀ x ∈ acts, 0 ≤ x.2.1 ∧ x.2.1 ≤ 18446744073709551615) ∧ acts.length ≤ 9223372036854775807 := by
  obtain ⟨hl, hm, hw, _⟩ := h
  refine ⟨fun x hx => ?_, fun x hx => ?_, by unfold maxLen at hm; omega⟩
  all_goals
    obtain ⟨i, hi, rfl⟩ := List.getElem_of_mem hx
    have := hw i (by omega)
    rw [List.getD_eq_getElem?_getD, List.getElem?_eq_getElem hi, Option.getD_some] at this
  · exact bounds_u8 this.1
  · have := bounds_u64 this.2.1
    omega
end Go.Proofs.Ytcooeopcjomhoaa
