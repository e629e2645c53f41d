/- kinfolkref03.Wide; is (of kinfolklaw03). -/
import Derived.Test.YtigkjmfkpmehlaaRSpans
namespace Go.Proofs.Ytigkjmfkpmehlaa
open Go.RowKit

theorem wsum_drop {xs : List (Nat × Nat)} {j : Nat} (h : j < xs.length) : wsum (xs.drop j) = (xs[j]).2 + wsum (xs.drop (j + 1)) := by
  rw [List.drop_eq_getElem_cons h]
  rfl
set_option maxRecDepth 100000 in
set_option maxHeartbeats 3200000 in
theorem rwide_any {xs : List (Nat × Nat)} {base : Nat} {v : Value} (w : World) (h : RS w base v xs) (hs : wsum xs < 2 ^ 60) (hl : xs.length ≤ 1000000) :
    Calls Try.prog 48 #[v] w fun e w' => e = .returned (.int .u64 (wsum xs : Int)) ∧ Below w.heap.size w w' := by
  by_cases h0 : xs = []
  · obtain rfl := h.2 h0
    subst h0
    have hb := Below.refl w.heap.size w
    go_enter Try.func48, Try.ntmps48
    go_wp2_with fail
    go_loopw [3, 8] (fun u3 u8 wr => wr = w ∧ u3 = .int .u64 0 ∧ u8 = .int .i64 0) (fun _ _ _ => 0)
    case atStart => exact ⟨rfl, rfl, rfl⟩
    case round =>
      obtain ⟨rfl, rfl, rfl⟩ := hrel
      go_wp2_with fail
      go_ret
      exact ⟨rfl, hb⟩
  · have hx : 1 ≤ xs.length := by cases xs with | nil => exact absurd rfl h0 | cons _ _ => simp
    obtain ⟨g, cap, rfl, hcell⟩ := h.some hx
    have HC := Lib.hid hcell
    have hcap : (xs.length : Int) ≤ (cap : Int) := by
      rcases h.1.2 with ⟨hh, _⟩ | ⟨g', cap', cur, hv, _, _, hn, _⟩
      · simp at hh
      · simp only [Value.slice.injEq] at hv
        omega
    have HH := Lib.hid h
    clear h hcell h0
    have hb := Below.refl w.heap.size w
    go_enter Try.func48, Try.ntmps48
    go_wp2_with fail
    go_loopw [3, 8] (fun u3 u8 wr => Below w.heap.size w wr ∧ ∃ (j a : Nat), j ≤ xs.length ∧ u3 = .int .u64 (a : Int) ∧ u8 = .int .i64 (j : Int) ∧ a + wsum (xs.drop j) = wsum xs) (fun _ u8 _ => xs.length - (intOf u8).toNat)
    case atStart => exact ⟨hb, 0, 0, by omega, rfl, rfl, by simp⟩
    case round =>
      obtain ⟨hbr, j, a, hj, rfl, rfl, hsj⟩ := hrel
      by_cases hlt : j < xs.length
      · have hx : xs[j]? = some xs[j] := List.getElem?_eq_getElem hlt
        have hw1 := (HH.out.below hbr)
        have hc0 := hw1.1.cellAt (g := g) (cap := cap) (j * 2) (by omega)
        have hc1 := hw1.1.cellAt (g := g) (cap := cap) (j * 2 + 1) (by omega)
        rw [sc_0, hx] at hc0
        rw [sc_1, hx] at hc1
        simp only [Option.map_some] at hc0 hc1
        rw [wsum_drop hlt] at hsj
        generalize xs[j] = p at *
        obtain ⟨x, y⟩ := p
        simp only at hc0 hc1 hsj
        clear hx hw1
        go_wp2_with fail
        exact ⟨⟨hbr.alloc hbr.size _, j + 1, a + y, by omega, by rw [Int.natCast_add], by go_num, by omega⟩, by simp [intOf]; omega⟩
      · obtain rfl : j = xs.length := by omega
        rw [List.drop_length] at hsj
        have e0 : a = wsum xs := by simpa [wsum] using hsj
        subst e0
        go_wp2_with fail
        go_ret
        exact ⟨rfl, hbr⟩
theorem bits_run (b : Nat) (w : World) : (callFunc 70 #[.float .f64 b]).run Try.prog w = .ok (.value (.int .u64 (b : Int))) w := by
  rw [run_callFunc_extern (fn := Try.f70) (e := Extern.MathFloatBits.float64bits) (by kernel_rfl) (by kernel_rfl) (by kernel_rfl) (by kernel_rfl) (by rfl)]
  rfl
set_option maxRecDepth 100000 in
set_option maxHeartbeats 1600000 in
theorem is_any {n : Nat} (w : World) (hn : n < 2 ^ 53) : Calls Try.prog 47 #[.float .f64 (fl n), .int .u64 (n : Int)] w fun e w' => e = .returned (.bool true) ∧ Below w.heap.size w w' := by
  have hq := fl_parts hn
  have f1 := run_fb (.inl rfl) hq
  have f2 := bits_run
  have hb := Below.refl w.heap.size w
  clear hq
  obtain ⟨x, hx⟩ : ∃ x, fl n = x := ⟨_, rfl⟩
  obtain ⟨y, hy⟩ : ∃ y, floatOfInt .f64 (n : Int) = y := ⟨_, rfl⟩
  rw [hx, hy] at f1
  rw [hx]
  go_enter Try.func47, Try.ntmps47
  go_wp2_with fail
  go_ret
  exact ⟨rfl, hb⟩
end Go.Proofs.Ytigkjmfkpmehlaa
