/- The walk of ShareTurns. -/
import Derived.Test.YtigkjmfkpmehlaaAwake3
namespace Go.Proofs.Ytigkjmfkpmehlaa
open Go.RowKit

theorem turn_is {x y : Nat} {n : Int} {N : Nat} {p q : Nat} (w : World) (hN : N < 4) (hn : (if n.tmod 4 < 0 then n.tmod 4 + 4 else n.tmod 4) = (N : Int)) (ht : turnC N x y = (p, q)) :
    Calls Try.prog 16 #[.complex .f64 x y, .int .i64 n] w fun e w' => e = .returned (.complex .f64 p q) ∧ w' = w := by
  have := turn_any x y n N hN hn w
  rw [ht] at this
  exact this

theorem idx0 (a b c d e f g h : Nat) (w : World) : (Instr.index 25 (.agg #[.complex .f64 a b, .complex .f64 c d, .complex .f64 e f, .complex .f64 g h]) (.int .i64 0)).run Try.prog w = .ok (.complex .f64 a b) w := by kernel_rfl
theorem idx1 (a b c d e f g h : Nat) (w : World) : (Instr.index 25 (.agg #[.complex .f64 a b, .complex .f64 c d, .complex .f64 e f, .complex .f64 g h]) (.int .i64 1)).run Try.prog w = .ok (.complex .f64 c d) w := by kernel_rfl
theorem idx2 (a b c d e f g h : Nat) (w : World) : (Instr.index 25 (.agg #[.complex .f64 a b, .complex .f64 c d, .complex .f64 e f, .complex .f64 g h]) (.int .i64 2)).run Try.prog w = .ok (.complex .f64 e f) w := by kernel_rfl
theorem idx3 (a b c d e f g h : Nat) (w : World) : (Instr.index 25 (.agg #[.complex .f64 a b, .complex .f64 c d, .complex .f64 e f, .complex .f64 g h]) (.int .i64 3)).run Try.prog w = .ok (.complex .f64 g h) w := by kernel_rfl

set_option maxRecDepth 100000 in
set_option maxHeartbeats 3200000 in
theorem turns_any (a b n : Int) (w : World) : Calls Try.prog 3 #[.int .i32 a, .int .i32 b, .int .i64 n] w fun e w' => e = .returned (.bool true) ∧ Below w.heap.size w w' := by
  have hb := Below.refl w.heap.size w
  have hneg := ng_run
  have hnegc := ng_runc
  have hi0 := idx0
  have hi1 := idx1
  have hi2 := idx2
  have hi3 := idx3
  have fa := fin_int a
  have fb := fin_int b
  have kx := fin_order fa
  have ky := fin_order fb
  have kx' := fin_order (fin_ng fa)
  have ky' := fin_order (fin_ng fb)
  obtain ⟨x, hx⟩ : ∃ x, floatOfInt .f64 a = x := ⟨_, rfl⟩
  obtain ⟨y, hy⟩ : ∃ y, floatOfInt .f64 b = y := ⟨_, rfl⟩
  rw [hx] at kx kx'
  rw [hy] at ky ky'
  clear fa fb
  have hm : n.tmod 4 = -3 ∨ n.tmod 4 = -2 ∨ n.tmod 4 = -1 ∨ n.tmod 4 = 0 ∨ n.tmod 4 = 1 ∨ n.tmod 4 = 2 ∨ n.tmod 4 = 3 := by
    have h1 := Int.tmod_lt_of_pos n (show (0 : Int) < 4 by decide)
    have h2 : -4 < n.tmod 4 := by
      have := Int.lt_tmod_of_pos n (show (0 : Int) < 4 by decide)
      omega
    omega
  have T2 := Lib.hid (show turnC 2 x y = (ng x, ng y) from rfl)
  have T1 := Lib.hid (show turnC 1 x y = (ng y, x) from rfl)
  have T3 := Lib.hid (show turnC 3 (ng y) x = (x, y) by simp only [turnC]; rw [ng_ng, ng_ng])
  have E1 := Lib.hid (show (if (1 : Int).tmod 4 < 0 then (1 : Int).tmod 4 + 4 else (1 : Int).tmod 4) = ((1 : Nat) : Int) by decide)
  have E2 := Lib.hid (show (if (2 : Int).tmod 4 < 0 then (2 : Int).tmod 4 + 4 else (2 : Int).tmod 4) = ((2 : Nat) : Int) by decide)
  have E3 := Lib.hid (show (if (3 : Int).tmod 4 < 0 then (3 : Int).tmod 4 + 4 else (3 : Int).tmod 4) = ((3 : Nat) : Int) by decide)
  rcases hm with hm | hm | hm | hm | hm | hm | hm
  · have TN := Lib.hid (show turnC 1 x y = (ng y, x) from rfl)
    have EN := Lib.hid (show (if n.tmod 4 < 0 then n.tmod 4 + 4 else n.tmod 4) = ((1 : Nat) : Int) by rw [hm]; decide)
    go_enter Try.func3, Try.ntmps3
    go_wp2_with (first
      | (go_at_call 15; refine Calls.mono (awake3_any _) ?_; rintro e wn ⟨rfl, hkk⟩; have hb := hb.trans (hkk.mono hb.size); clear hkk)
      | (go_at_call 16; first
          | ((with_reducible refine Calls.mono (turn_is _ (by decide) EN.out TN.out) ?_); rintro e wz ⟨rfl, rfl⟩)
          | ((with_reducible refine Calls.mono (turn_is _ (by decide) E1.out T1.out) ?_); rintro e wz ⟨rfl, rfl⟩)
          | ((with_reducible refine Calls.mono (turn_is _ (by decide) E3.out T3.out) ?_); rintro e wz ⟨rfl, rfl⟩)
          | ((with_reducible refine Calls.mono (turn_is _ (by decide) E2.out T2.out) ?_); rintro e wz ⟨rfl, rfl⟩)))
    go_ret
    exact ⟨by trivial, hb⟩
  · have TN := Lib.hid (show turnC 2 x y = (ng x, ng y) from rfl)
    have EN := Lib.hid (show (if n.tmod 4 < 0 then n.tmod 4 + 4 else n.tmod 4) = ((2 : Nat) : Int) by rw [hm]; decide)
    go_enter Try.func3, Try.ntmps3
    go_wp2_with (first
      | (go_at_call 15; refine Calls.mono (awake3_any _) ?_; rintro e wn ⟨rfl, hkk⟩; have hb := hb.trans (hkk.mono hb.size); clear hkk)
      | (go_at_call 16; first
          | ((with_reducible refine Calls.mono (turn_is _ (by decide) EN.out TN.out) ?_); rintro e wz ⟨rfl, rfl⟩)
          | ((with_reducible refine Calls.mono (turn_is _ (by decide) E1.out T1.out) ?_); rintro e wz ⟨rfl, rfl⟩)
          | ((with_reducible refine Calls.mono (turn_is _ (by decide) E3.out T3.out) ?_); rintro e wz ⟨rfl, rfl⟩)
          | ((with_reducible refine Calls.mono (turn_is _ (by decide) E2.out T2.out) ?_); rintro e wz ⟨rfl, rfl⟩)))
    go_ret
    exact ⟨by trivial, hb⟩
  · have TN := Lib.hid (show turnC 3 x y = (y, ng x) by simp only [turnC]; rw [ng_ng])
    have EN := Lib.hid (show (if n.tmod 4 < 0 then n.tmod 4 + 4 else n.tmod 4) = ((3 : Nat) : Int) by rw [hm]; decide)
    go_enter Try.func3, Try.ntmps3
    go_wp2_with (first
      | (go_at_call 15; refine Calls.mono (awake3_any _) ?_; rintro e wn ⟨rfl, hkk⟩; have hb := hb.trans (hkk.mono hb.size); clear hkk)
      | (go_at_call 16; first
          | ((with_reducible refine Calls.mono (turn_is _ (by decide) EN.out TN.out) ?_); rintro e wz ⟨rfl, rfl⟩)
          | ((with_reducible refine Calls.mono (turn_is _ (by decide) E1.out T1.out) ?_); rintro e wz ⟨rfl, rfl⟩)
          | ((with_reducible refine Calls.mono (turn_is _ (by decide) E3.out T3.out) ?_); rintro e wz ⟨rfl, rfl⟩)
          | ((with_reducible refine Calls.mono (turn_is _ (by decide) E2.out T2.out) ?_); rintro e wz ⟨rfl, rfl⟩)))
    go_ret
    exact ⟨by trivial, hb⟩
  · have TN := Lib.hid (show turnC 0 x y = (x, y) from rfl)
    have EN := Lib.hid (show (if n.tmod 4 < 0 then n.tmod 4 + 4 else n.tmod 4) = ((0 : Nat) : Int) by rw [hm]; decide)
    go_enter Try.func3, Try.ntmps3
    go_wp2_with (first
      | (go_at_call 15; refine Calls.mono (awake3_any _) ?_; rintro e wn ⟨rfl, hkk⟩; have hb := hb.trans (hkk.mono hb.size); clear hkk)
      | (go_at_call 16; first
          | ((with_reducible refine Calls.mono (turn_is _ (by decide) EN.out TN.out) ?_); rintro e wz ⟨rfl, rfl⟩)
          | ((with_reducible refine Calls.mono (turn_is _ (by decide) E1.out T1.out) ?_); rintro e wz ⟨rfl, rfl⟩)
          | ((with_reducible refine Calls.mono (turn_is _ (by decide) E3.out T3.out) ?_); rintro e wz ⟨rfl, rfl⟩)
          | ((with_reducible refine Calls.mono (turn_is _ (by decide) E2.out T2.out) ?_); rintro e wz ⟨rfl, rfl⟩)))
    go_ret
    exact ⟨by trivial, hb⟩
  · have TN := Lib.hid (show turnC 1 x y = (ng y, x) from rfl)
    have EN := Lib.hid (show (if n.tmod 4 < 0 then n.tmod 4 + 4 else n.tmod 4) = ((1 : Nat) : Int) by rw [hm]; decide)
    go_enter Try.func3, Try.ntmps3
    go_wp2_with (first
      | (go_at_call 15; refine Calls.mono (awake3_any _) ?_; rintro e wn ⟨rfl, hkk⟩; have hb := hb.trans (hkk.mono hb.size); clear hkk)
      | (go_at_call 16; first
          | ((with_reducible refine Calls.mono (turn_is _ (by decide) EN.out TN.out) ?_); rintro e wz ⟨rfl, rfl⟩)
          | ((with_reducible refine Calls.mono (turn_is _ (by decide) E1.out T1.out) ?_); rintro e wz ⟨rfl, rfl⟩)
          | ((with_reducible refine Calls.mono (turn_is _ (by decide) E3.out T3.out) ?_); rintro e wz ⟨rfl, rfl⟩)
          | ((with_reducible refine Calls.mono (turn_is _ (by decide) E2.out T2.out) ?_); rintro e wz ⟨rfl, rfl⟩)))
    go_ret
    exact ⟨by trivial, hb⟩
  · have TN := Lib.hid (show turnC 2 x y = (ng x, ng y) from rfl)
    have EN := Lib.hid (show (if n.tmod 4 < 0 then n.tmod 4 + 4 else n.tmod 4) = ((2 : Nat) : Int) by rw [hm]; decide)
    go_enter Try.func3, Try.ntmps3
    go_wp2_with (first
      | (go_at_call 15; refine Calls.mono (awake3_any _) ?_; rintro e wn ⟨rfl, hkk⟩; have hb := hb.trans (hkk.mono hb.size); clear hkk)
      | (go_at_call 16; first
          | ((with_reducible refine Calls.mono (turn_is _ (by decide) EN.out TN.out) ?_); rintro e wz ⟨rfl, rfl⟩)
          | ((with_reducible refine Calls.mono (turn_is _ (by decide) E1.out T1.out) ?_); rintro e wz ⟨rfl, rfl⟩)
          | ((with_reducible refine Calls.mono (turn_is _ (by decide) E3.out T3.out) ?_); rintro e wz ⟨rfl, rfl⟩)
          | ((with_reducible refine Calls.mono (turn_is _ (by decide) E2.out T2.out) ?_); rintro e wz ⟨rfl, rfl⟩)))
    go_ret
    exact ⟨by trivial, hb⟩
  · have TN := Lib.hid (show turnC 3 x y = (y, ng x) by simp only [turnC]; rw [ng_ng])
    have EN := Lib.hid (show (if n.tmod 4 < 0 then n.tmod 4 + 4 else n.tmod 4) = ((3 : Nat) : Int) by rw [hm]; decide)
    go_enter Try.func3, Try.ntmps3
    go_wp2_with (first
      | (go_at_call 15; refine Calls.mono (awake3_any _) ?_; rintro e wn ⟨rfl, hkk⟩; have hb := hb.trans (hkk.mono hb.size); clear hkk)
      | (go_at_call 16; first
          | ((with_reducible refine Calls.mono (turn_is _ (by decide) EN.out TN.out) ?_); rintro e wz ⟨rfl, rfl⟩)
          | ((with_reducible refine Calls.mono (turn_is _ (by decide) E1.out T1.out) ?_); rintro e wz ⟨rfl, rfl⟩)
          | ((with_reducible refine Calls.mono (turn_is _ (by decide) E3.out T3.out) ?_); rintro e wz ⟨rfl, rfl⟩)
          | ((with_reducible refine Calls.mono (turn_is _ (by decide) E2.out T2.out) ?_); rintro e wz ⟨rfl, rfl⟩)))
    go_ret
    exact ⟨by trivial, hb⟩
end Go.Proofs.Ytigkjmfkpmehlaa
