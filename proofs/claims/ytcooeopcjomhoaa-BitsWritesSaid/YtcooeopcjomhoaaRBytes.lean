/- The document's Bytes. -/
import Derived.Test.YtcooeopcjomhoaaReadsWalk
namespace Go.Proofs.Ytcooeopcjomhoaa
open Go.RowKit Plain

/-- The number of k bits from i on. -/
def byteUp (l : List Bool) (i : Nat) : Nat → Int
  | 0 => 0
  | k + 1 => 2 * byteUp l i k + bv (gb l (i + k))
theorem byteUp_bound (l : List Bool) (i : Nat) : ∀ k, 0 ≤ byteUp l i k ∧ byteUp l i k < 2 ^ k
  | 0 => by simp [byteUp]
  | k + 1 => by
    have h := byteUp_bound l i k
    have hb := bv_le (gb l (i + k))
    have e : (2 : Int) ^ (k + 1) = 2 ^ k * 2 := rfl
    rw [byteUp, e]
    omega
theorem byteUp_8 (l : List Bool) (r : Nat) : byteUp l (8 * r) 8 = byteAt l r := by
  simp only [byteUp, byteAt, Nat.add_zero]
  omega

def RBytesRel (w : World) (l : List Bool) (u3 u4 : Value) (wr : World) : Prop :=
  ∃ r : Nat, 8 * r ≤ l.length + 7 ∧ u4 = .int .i64 (8 * (r : Int)) ∧ wr.ownsRow w.heap.size 5 1 u3 r (((pack l).take r).map (Value.int .u8)) ∧ Below w.heap.size w wr
def RBytesRel2 (wo : World) (l : List Bool) (r : Nat) (u5 u6 : Value) (wr : World) : Prop :=
  ∃ k : Nat, k ≤ 8 ∧ u6 = .int .i64 (k : Int) ∧ u5 = .int .u8 (byteUp l (8 * r) k) ∧ wr = wo

set_option maxHeartbeats 1000000 in
theorem rbytes_any {v : Value} {B : Nat} {l : List Bool} (w : World) (h : w.ownsRow B 4 1 v l.length (l.map Value.bool)) (hl : l.length ≤ 1000000) :
    Calls Try.prog 28 #[v] w fun e w' => ∃ v', e = .returned v' ∧ w'.ownsRow w.heap.size 5 1 v' (pack l).length ((pack l).map (Value.int .u8)) ∧ Below w.heap.size w w' := by
  obtain ⟨a, c, rfl⟩ := own_shape h
  have H := Lib.hid h
  clear h
  obtain ⟨i0, hi, hz0, hz1, hz2⟩ := info_parts Try.info5
  go_enter Try.func28, Try.ntmps28
  go_wp2_with fail
  go_loopw [3, 4] (fun u3 u4 wr => RBytesRel w l u3 u4 wr) (fun _ u4 _ => l.length + 8 - (intOf u4).toNat)
  case atStart => exact ⟨0, by omega, rfl, World.ownsRow_nil _ _ _ _, Below.refl _ _⟩
  case round =>
    obtain ⟨r, hr, rfl, hown, hbel⟩ := hrel
    obtain ⟨a3, n3, c3, rfl⟩ := own_slice hown
    by_cases hlt : 8 * r < l.length
    · obtain ⟨c', cap', hv, hc1, _, _, hclt, hcc⟩ := bools_cell H.out (by omega)
      simp only [Value.slice.injEq, true_and] at hv
      obtain ⟨rfl, rfl⟩ := hv
      have hd : decide (8 * (r : Int) < (l.length : Int)) = true := decide_eq_true (by omega)
      go_wp2_with fail
      obtain ⟨wo, rfl⟩ : ∃ wo : World, wo = wr := ⟨_, rfl⟩
      have HCC := Lib.hid hcc
      clear hcc
      go_loopw [5, 6] (fun u5 u6 wr => RBytesRel2 wo l r u5 u6 wr) (fun _ u6 _ => 8 - (intOf u6).toNat)
      case atStart => exact ⟨0, by omega, rfl, rfl, rfl⟩
      case round =>
        obtain ⟨k, hk, rfl, rfl, rfl⟩ := hrel
        by_cases hk8 : k < 8
        · have hbd := byteUp_bound l (8 * r) k
          have hp : (2 : Int) ^ k ≤ 2 ^ 7 := pow_le (by omega)
          have e7 : (2 : Int) ^ 7 = 128 := by decide
          have hST := Lib.hid (show byteUp l (8 * r) (k + 1) = 2 * byteUp l (8 * r) k + bv (gb l (8 * r + k)) from rfl)
          obtain ⟨hb0, hb1⟩ := hbd
          have hb2 : byteUp l (8 * r) k < 128 := by omega
          clear hb1 hp e7
          generalize byteUp l (8 * r) k = x at *
          have hw1 : IntKind.u8.wrap (x * 2) = x * 2 := by rw [wraps_u8 _ (by omega) (by omega)]
          have hw2 : IntKind.u8.wrap (x * 2 + 1) = x * 2 + 1 := by rw [wraps_u8 _ (by omega) (by omega)]
          by_cases hin : 8 * r + k < l.length
          · have hcx := hbel.cell (p := ⟨c', 8 * r + k, none⟩) hclt
            rw [HCC.out _ hin] at hcx
            unfold gb at hST
            cases hb : l.getD (8 * r + k) false with
            | false =>
              rw [hb] at hcx hST
              go_wp2_with fail
              go_roundw
              case rel => exact ⟨k + 1, by omega, by go_num, by rw [hST.out, bv_false]; congr 1; omega, rfl⟩
              case measure => simp [intOf]; omega
            | true =>
              rw [hb] at hcx hST
              go_wp2_with fail
              go_roundw
              case rel => exact ⟨k + 1, by omega, by go_num, by rw [hST.out, bv_true]; congr 1; omega, rfl⟩
              case measure => simp [intOf]; omega
          · have hg : gb l (8 * r + k) = false := gb_past l _ (by omega)
            rw [hg] at hST
            go_wp2_with fail
            go_roundw
            case rel => exact ⟨k + 1, by omega, by go_num, by rw [hST.out, bv_false]; congr 1; omega, rfl⟩
            case measure => simp [intOf]; omega
        · obtain rfl : k = 8 := by omega
          rw [byteUp_8]
          have hpl := pack_length l
          have hgt : (pack l)[r]? = some (byteAt l r) := pack_get l r (by omega)
          have hn3 : n3 = r := by rcases hown.2 with ⟨h, h0⟩ | ⟨_, _, _, h, _⟩ <;> (simp at h; omega)
          subst hn3
          go_wp2_with (at_builtin; refine wpList_append_own_at _ rfl _ _ 33 rfl w.heap.size 5 i0 (.int .u8 0) 1 1 Try.underlying33 hi hz0 hz1 hz2 rfl (by decide) _ _ _ rfl (hown.alloc _) ⟨wr.heap.size, 0, none⟩ 1 1 [.int .u8 (byteAt l n3)] rfl rfl (cell_one_new _ _ _) (fun x hx => by simp at hx; subst hx; rfl) (by unfold maxLen; omega) (by omega) (by have := hbel.size; simp; omega) ?_; intro v' w1 hown' hgrow _ hat)
          go_roundw
          case rel =>
            refine ⟨n3 + 1, by omega, by go_num, ?_, (hbel.alloc hbel.size _).grown hgrow (by have := hbel.size; simp; omega) (fun k hk => (hown.lt k hk).1)⟩
            obtain ⟨hlt2, hx⟩ := List.getElem?_eq_some_iff.1 hgt
            rw [List.take_succ_eq_append_getElem hlt2, hx, List.map_append]
            exact hown'
          case measure => simp [intOf]; omega
    · have hpl := pack_length l
      have hr2 : r = (pack l).length := by omega
      go_wp2_with fail
      go_ret
      refine ⟨_, rfl, ?_, hbel⟩
      rw [hr2, List.take_length] at hown
      exact hown
end Go.Proofs.Ytcooeopcjomhoaa
