/- share.Turn: a quarter round, some times; what is known of the floats of it. -/
import Derived.Test.YtigkjmfkpmehlaaAwake
import Derived.Laws.Cover2
import Derived.Laws.Cover3
import Derived.Laws.ComplexArith
import Derived.ScopeJumps
import Derived.WalkMore
namespace Go.Proofs.Ytigkjmfkpmehlaa
open Go.RowKit

/-- The opposite of a float. -/
def ng (b : Nat) : Nat := Op.negFloat .f64 b
theorem ng_run (y : Nat) : Op.unary .neg (.float .f64 y) = pure (.float .f64 (ng y)) := rfl
theorem ng_runc (x y : Nat) : Op.unary .neg (.complex .f64 x y) = pure (.complex .f64 (ng x) (ng y)) := rfl
theorem ng_eq (b : Nat) : ng b = b ^^^ 2 ^ 63 := rfl
theorem ng_ng (b : Nat) : ng (ng b) = b := by rw [ng_eq, ng_eq, Nat.xor_assoc, Nat.xor_self, Nat.xor_zero]
/-- A float that is a number. -/
def Fin64 (x : Nat) : Prop := x % 2 ^ 63 ≤ 9218868437227405312
theorem fin_ng {x : Nat} (h : Fin64 x) : Fin64 (ng x) := by
  unfold Fin64 at *
  rw [ng_eq, Nat.xor_mod_two_pow, Nat.mod_self, Nat.xor_zero]
  exact h
theorem fin_order {x : Nat} (h : Fin64 x) : (FloatKind.f64.format.order x x == some .eq) = true := by
  have hr : ∃ d, Ieee.Format.read Ieee.double x = d ∧ (∀ n t, d ≠ .nan n t) := by
    refine ⟨_, rfl, ?_⟩
    intro n t
    unfold Ieee.Format.read
    have e1 : Ieee.double.signWeight = 2 ^ 63 := rfl
    have e2 : Ieee.double.infRung = 9218868437227405312 := by decide
    simp only [e1, e2]
    unfold Fin64 at h
    split
    · simp
    · split
      · simp
      · split
        · simp
        · omega
  obtain ⟨d, hd, hn⟩ := hr
  show (Ieee.Datum.order (Ieee.Format.read Ieee.double x) (Ieee.Format.read Ieee.double x) == some .eq) = true
  rw [hd]
  cases d with
  | number s m p =>
    simp only [Ieee.Datum.order]
    have : ∀ z : Int, compare z z = .eq := fun z => by simp [compare, compareOfLessAndEq]
    rw [this]
    rfl
  | infinity s => cases s <;> rfl
  | nan a b => exact absurd rfl (hn a b)
theorem fin_int (n : Int) : Fin64 (floatOfInt .f64 n) := by
  unfold floatOfInt FloatKind.nearest FloatKind.encode
  show Fin64 (Ieee.Format.nearest Ieee.double (decide (n < 0)) n.natAbs 0)
  have e1 : Ieee.double.signWeight = 2 ^ 63 := rfl
  have e2 : Ieee.double.infRung = 9218868437227405312 := by decide
  have hw : ∀ (s : Bool) (r : Nat), r ≤ 9218868437227405312 → Fin64 (Ieee.Format.word Ieee.double s r) := by
    intro s r hr
    unfold Fin64 Ieee.Format.word
    rw [e1]
    split <;> omega
  unfold Ieee.Format.nearest
  split
  · exact hw _ 0 (by omega)
  · simp only [e2]
    exact hw _ _ (Nat.min_le_right _ _)
/-- A quarter round, some times. -/
def turnC : Nat → Nat → Nat → Nat × Nat
  | 0, x, y => (x, y)
  | m + 1, x, y => turnC m (ng y) x
theorem wp_eq {v : Value} {a b : Nat × Nat} (h : a = b) (hv : v = .complex .f64 a.1 a.2) : v = .complex .f64 b.1 b.2 := by rw [← h]; exact hv
theorem turn_any (x y : Nat) (n : Int) (N : Nat) (hN : N < 4) (hn : (if n.tmod 4 < 0 then n.tmod 4 + 4 else n.tmod 4) = (N : Int)) (w : World) :
    Calls Try.prog 16 #[.complex .f64 x y, .int .i64 n] w fun e w' => e = .returned (.complex .f64 (turnC N x y).1 (turnC N x y).2) ∧ w' = w := by
  have hneg := ng_run
  go_enter Try.func16, Try.ntmps16
  go_wp2_with fail
  refine wp_scope_jumps 0 (fun a' w' => w' = w ∧ ∃ (m : Nat) (re im : Nat) (u6 u7 u8 u9 u10 u11 u12 u13 u14 u15 u16 u17 u18 u19 u20 u21 u22 : Value), a' = { tmps := #[.complex .f64 re im, .int .i64 n, undef, undef, .complex .f64 0 0, .int .i64 (m : Int), u6, u7, u8, u9, u10, u11, u12, u13, u14, u15, u16, u17, u18, u19, u20, u21, u22], defers := [] } ∧ m ≤ 3 ∧ turnC m re im = turnC N x y) (fun a' _ => (intOf (a'.tmps.getD 5 undef)).toNat) rfl ?_ ?_
  · have h4 : 0 ≤ n.tmod 4 ∨ n.tmod 4 < 0 := by omega
    rcases h4 with h4 | h4
    · rw [if_neg (by omega)] at hn
      rw [hn] at h4
      go_wp2_with fail
      go_step3
      cases N with
      | zero =>
        go_wp2_with fail
        simp only [Exit.jump]
        go_ret
        exact ⟨rfl, rfl⟩
      | succ m =>
        have hm1 : wrap64 (((m + 1 : Nat) : Int) - 1) = (m : Int) := by rw [IntWalk.wrap64_in _ (by omega)]; omega
        have hm2 : (0 : Int) < ((m + 1 : Nat) : Int) := by omega
        go_wp2_with fail
        go_step3
        exact ⟨rfl, rfl, m, ng y, x, _, _, _, _, _, _, _, _, _, _, _, _, _, _, _, _, _, rfl, by omega, rfl⟩
    · rw [if_pos h4] at hn
      have hw4 : wrap64 (n.tmod 4 + 4) = (N : Int) := by rw [IntWalk.wrap64_in _ (by omega)]; omega
      have hw5 : n.tmod 4 + 4 = (N : Int) := hn
      go_wp2_with fail
      go_step3
      cases N with
      | zero =>
        go_wp2_with fail
        simp only [Exit.jump]
        go_ret
        exact ⟨rfl, rfl⟩
      | succ m =>
        have hm1 : wrap64 (((m + 1 : Nat) : Int) - 1) = (m : Int) := by rw [IntWalk.wrap64_in _ (by omega)]; omega
        have hm2 : (0 : Int) < ((m + 1 : Nat) : Int) := by omega
        go_wp2_with fail
        go_step3
        exact ⟨rfl, rfl, m, ng y, x, _, _, _, _, _, _, _, _, _, _, _, _, _, _, _, _, _, rfl, by omega, rfl⟩
  · rintro a' w' ⟨rfl, m, re, im, u6, u7, u8, u9, u10, u11, u12, u13, u14, u15, u16, u17, u18, u19, u20, u21, u22, rfl, hm, ht⟩
    have HT := Lib.hid ht
    clear ht
    cases m with
    | zero =>
      go_wp2_with fail
      simp only [Exit.jump]
      go_ret
      exact ⟨by rw [← HT.out]; rfl, rfl⟩
    | succ m =>
      have hm1 : wrap64 (((m + 1 : Nat) : Int) - 1) = (m : Int) := by rw [IntWalk.wrap64_in _ (by omega)]; omega
      have hm2 : (0 : Int) < ((m + 1 : Nat) : Int) := by omega
      go_wp2_with fail
      go_step3
      exact ⟨rfl, ⟨rfl, m, ng im, re, _, _, _, _, _, _, _, _, _, _, _, _, _, _, _, _, _, rfl, by omega, HT.out⟩, by simp [intOf]⟩
end Go.Proofs.Ytigkjmfkpmehlaa
