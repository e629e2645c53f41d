/- The document's Bits. -/
import Derived.Test.YtcooeopcjomhoaaXNum
import Derived.Test.YtcooeopcjomhoaaNumsWalk
namespace Go.Proofs.Ytcooeopcjomhoaa
open Go.RowKit Plain

theorem Try.info4 : (Try.prog.info? 4).map (fun i => (i.zero, i.size, i.bytes)) = some (some (.bool false), 1, 1) := by kernel_rfl
theorem ub_length (P : List Int) : (ub P).length = 8 * P.length := by simp [ub]
theorem ub_take (P : List Int) (j : Nat) (h : j < 8 * P.length) : (ub P).take (j + 1) = (ub P).take j ++ [bitAt P j] := by
  rw [List.take_succ_eq_append_getElem (by rw [ub_length]; exact h)]
  simp [ub]
theorem top_bit (x : Int) (k : Nat) (hk : k < 8) : decide (128 ≤ x * 2 ^ k % 256) = (x / 2 ^ (7 - k) % 2 == 1) := by
  have e : (x / 2 ^ (7 - k) % 2 == 1) = decide (x / 2 ^ (7 - k) % 2 = 1) := rfl
  rw [e]
  apply decide_eq_decide.2
  have hr : k = 0 ∨ k = 1 ∨ k = 2 ∨ k = 3 ∨ k = 4 ∨ k = 5 ∨ k = 6 ∨ k = 7 := by omega
  rcases hr with rfl | rfl | rfl | rfl | rfl | rfl | rfl | rfl <;> simp only [Nat.reduceSub, Int.reducePow] <;> omega
theorem next_byte (x : Int) (k : Nat) : x * 2 ^ k % 256 * 2 % 256 = x * 2 ^ (k + 1) % 256 := by
  have e : (2 : Int) ^ (k + 1) = 2 ^ k * 2 := rfl
  rw [e, ← Int.mul_assoc]
  omega

def BitsRel (w : World) (P : List Int) (u3 u9 : Value) (wr : World) : Prop :=
  ∃ i : Nat, i ≤ P.length ∧ u9 = .int .i64 (i : Int) ∧ wr.ownsRow w.heap.size 4 1 u3 (8 * i) (((ub P).take (8 * i)).map Value.bool) ∧ Below w.heap.size w wr
def BitsRel2 (w : World) (P : List Int) (i : Nat) (x : Int) (u3 u5 u6 : Value) (wr : World) : Prop :=
  ∃ k : Nat, k ≤ 8 ∧ u6 = .int .i64 (k : Int) ∧ u5 = .int .u8 (x * 2 ^ k % 256) ∧ wr.ownsRow w.heap.size 4 1 u3 (8 * i + k) (((ub P).take (8 * i + k)).map Value.bool) ∧ Below w.heap.size w wr

set_option maxHeartbeats 1000000 in
theorem xbits_any {v : Value} {P : List Int} (w : World) (h : RB w v P) (hb : ∀ x ∈ P, 0 ≤ x ∧ x ≤ 255) (hP : P.length ≤ 1000000) :
    Calls Try.prog 20 #[v] w fun e w' => ∃ v', e = .returned v' ∧ w'.ownsRow w.heap.size 4 1 v' (8 * P.length) ((ub P).map Value.bool) ∧ Below w.heap.size w w' := by
  obtain ⟨a, c, rfl⟩ := h.slice
  have H := Lib.hid h
  clear h
  obtain ⟨i0, hi, hz0, hz1, hz2⟩ := info_parts Try.info4
  go_enter Try.func20, Try.ntmps20
  go_wp2_with fail
  go_loopw [3, 9] (fun u3 u9 wr => BitsRel w P u3 u9 wr) (fun _ u9 _ => P.length - (intOf u9).toNat)
  case atStart => exact ⟨0, by omega, rfl, World.ownsRow_nil _ _ _ _, Below.refl _ _⟩
  case round =>
    obtain ⟨i, hi', rfl, hown, hbel⟩ := hrel
    by_cases hlt : i < P.length
    · rcases H.out with ⟨_, h0⟩ | ⟨b, off, cap, hv, hcap, hblt, hr⟩
      · rw [h0] at hlt; simp at hlt
      simp only [Value.slice.injEq, true_and] at hv
      obtain ⟨rfl, rfl⟩ := hv
      have hx := hb (P.getD i 0) (by rw [List.getD_eq_getElem?_getD, List.getElem?_eq_getElem hlt]; exact List.getElem_mem _)
      have hcx : wr.cell? ⟨b, off + i, none⟩ = some (.int .u8 (P.getD i 0)) := (hbel.cell (p := ⟨b, off + i, none⟩) hblt).trans (hr i _ (by rw [List.getD_eq_getElem?_getD, List.getElem?_eq_getElem hlt]; rfl))
      have hbit : ∀ k, k < 8 → bitAt P (8 * i + k) = decide (128 ≤ P.getD i 0 * 2 ^ k % 256) := fun k hk => by
        rw [top_bit _ k hk]
        unfold bitAt
        rw [show (8 * i + k) / 8 = i by omega, show (8 * i + k) % 8 = k by omega]
      have HBIT := Lib.hid hbit
      obtain ⟨hx0, hx1⟩ := hx
      clear hbit hr
      generalize P.getD i 0 = x at *
      obtain ⟨a3, n3, c3, rfl⟩ := own_slice hown
      go_wp2_with fail
      obtain ⟨wo, rfl⟩ : ∃ wo : World, wo = wr := ⟨_, rfl⟩
      have hstart : x * 2 ^ 0 % 256 = x := by simp; omega
      go_loopw [3, 5, 6] (fun u3 u5 u6 wr => BitsRel2 w P i x u3 u5 u6 wr) (fun _ _ u6 _ => 8 - (intOf u6).toNat)
      case atStart => exact ⟨0, by omega, rfl, by rw [hstart], hown, hbel⟩
      case round =>
        obtain ⟨k, hk, rfl, rfl, hown2, hbel2⟩ := hrel
        obtain ⟨a4, n4, c4, rfl⟩ := own_slice hown2
        have hy0 := Int.emod_nonneg (x * 2 ^ k) (show (256 : Int) ≠ 0 by decide)
        have hy1 := Int.emod_lt_of_pos (x * 2 ^ k) (show (0 : Int) < 256 by decide)
        have HNB := Lib.hid (next_byte x k)
        by_cases hk8 : k < 8
        · have HBK := Lib.hid (HBIT.out k hk8)
          generalize x * 2 ^ k % 256 = y at *
          have hcapb : 8 * i + k ≤ 8000000 := by omega
          go_wp2_with (at_builtin; refine wpList_append_own_at _ rfl _ _ 27 rfl w.heap.size 4 i0 (.bool false) 1 1 Try.underlying27 hi hz0 hz1 hz2 rfl (by decide) _ _ _ rfl (hown2.alloc _) ⟨wr.heap.size, 0, none⟩ 1 1 [.bool (decide (128 ≤ y))] rfl rfl (cell_one_new _ _ _) (fun x hx => by simp at hx; subst hx; rfl) (by unfold maxLen; omega) (by omega) (by have := hbel2.size; simp; omega) ?_; intro v' w1 hown' hgrow _ hat)
          go_roundw
          case rel =>
            refine ⟨k + 1, by omega, by go_num, by rw [HNB.out], ?_, (hbel2.alloc hbel2.size _).grown hgrow (by have := hbel2.size; simp; omega) (fun k hk => (hown2.lt k hk).1)⟩
            rw [← Nat.add_assoc, ub_take P (8 * i + k) (by omega), HBK.out, List.map_append]
            exact hown'
          case measure => simp [intOf]; omega
        · obtain rfl : k = 8 := by omega
          go_wp2_with fail
          go_roundw
          case rel => exact ⟨i + 1, by omega, by go_num, hown2, hbel2⟩
          case measure => simp [intOf]; omega
    · obtain rfl : i = P.length := by omega
      go_wp2_with fail
      go_ret
      refine ⟨_, rfl, ?_, hbel⟩
      rw [List.take_of_length_le (by rw [ub_length]; omega)] at hown
      exact hown
end Go.Proofs.Ytcooeopcjomhoaa
