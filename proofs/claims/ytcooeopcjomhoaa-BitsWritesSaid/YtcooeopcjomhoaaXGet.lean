/- The document's reader: Get, GetNum, End. -/
import Derived.Test.YtcooeopcjomhoaaRNum
namespace Go.Proofs.Ytcooeopcjomhoaa
open Go.RowKit Plain

/-- A slice of bools that reads as l. -/
def RL (w : World) (v : Value) (l : List Bool) : Prop :=
  (l = [] ∧ ∃ a c, v = .slice a 0 c) ∨ ∃ b off cap, v = .slice (some ⟨b, off, none⟩) l.length cap ∧ l.length ≤ cap ∧ b < w.heap.size ∧ ∀ i, i < l.length → w.cell? ⟨b, off + i, none⟩ = some (.bool (gb l i))
theorem RL.slice {w : World} {v : Value} {l : List Bool} (h : RL w v l) : ∃ a c, v = .slice a l.length c := by
  rcases h with ⟨rfl, a, c, rfl⟩ | ⟨b, off, cap, rfl, _⟩
  · exact ⟨_, _, rfl⟩
  · exact ⟨_, _, rfl⟩
theorem RL.below {w w' : World} {v : Value} {l : List Bool} (h : RL w v l) {B : Nat} (hb : Below B w w') (hB : ∀ k, v.ownBlock = some k → k < B) : RL w' v l := by
  rcases h with h | ⟨b, off, cap, rfl, hc, hlt, hr⟩
  · exact .inl h
  · have hlt' := hB b rfl
    exact .inr ⟨b, off, cap, rfl, hc, by have := hb.size; omega, fun j hj => (hb.cell (p := ⟨b, off + j, none⟩) hlt').trans (hr j hj)⟩
theorem RL.fr {w w' : World} {g : Nat} {v : Value} {l : List Bool} (h : RL w v l) (hf : Fr w w' g none) (hg : v.ownBlock ≠ some g) : RL w' v l := by
  rcases h with h | ⟨b, off, cap, rfl, hc, hlt, hr⟩
  · exact .inl h
  · have hbg : b ≠ g := by intro e; exact hg (by simp [Value.ownBlock, e])
    exact .inr ⟨b, off, cap, rfl, hc, by have := hf.size; omega, fun j hj => (World.cell?_of_block (a := ⟨b, off + j, none⟩) (hf.block b hlt hbg (by simp))).trans (hr j hj)⟩

/-- The document's reader: its bits, its error. -/
def RX (w : World) (lo g : Nat) (l : List Bool) (e : Int) : Prop :=
  ∃ v, w.heap[g]? = some (.cells #[v, .int .i64 e] 44 (0, 0)) ∧ RL w v l ∧ ∀ k, v.ownBlock = some k → lo ≤ k ∧ k < g

theorem rwithin_any (k : Int) (w : World) : Calls Try.prog 32 #[.int .i64 k] w fun e w' => e = .returned (.int .i64 (clampK k : Int)) ∧ w = w' := by
  go_enter Try.func32, Try.ntmps32
  go_wp2
  all_goals
    go_ret
    exact ⟨ret_int (by unfold clampK; omega), rfl⟩

theorem RX.set_e {w : World} {lo g : Nat} {l : List Bool} {e : Int} (h : RX w lo g l e) (e' : Int) : RX (w.setCell ⟨g, 1, none⟩ (.int .i64 e')) lo g l e' := by
  obtain ⟨v, hb, hr, hne⟩ := h
  exact ⟨v, by rw [blk_set hb 1]; simp, hr.fr ((Fr.refl w g none).set 1 _) (fun e => by have := (hne g e).2; omega), hne⟩

set_option maxHeartbeats 1000000 in
theorem xget_err {lo g : Nat} {l : List Bool} {e : Int} (k : Int) (w : World) (h : RX w lo g l e) (he : e ≠ 0) :
    Calls Try.prog 21 #[.pointer (some ⟨g, 0, none⟩), .int .i64 k] w fun e' w' => e' = .returned (.int .u64 0) ∧ RX w' lo g l e ∧ Fr w w' g none := by
  have H := Lib.hid h
  obtain ⟨v, hb, _, _⟩ := h
  have hc1 : w.cell? ⟨g, 1, none⟩ = some (.int .i64 e) := blk_cell hb 1
  have hne : (e != 0) = true := by simpa using he
  clear hb
  go_enter Try.func21, Try.ntmps21
  go_wp2_with (go_at_call 32; refine (rwithin_any _ _).mono ?_; rintro e w' ⟨rfl, rfl⟩)
  go_ret
  exact ⟨rfl, H.out, Fr.refl _ _ _⟩

set_option maxHeartbeats 1000000 in
theorem xget_short {lo g : Nat} {l : List Bool} (k : Int) (w : World) (h : RX w lo g l 0) (_hl : l.length ≤ 1000000) (hk : l.length < clampK k) :
    Calls Try.prog 21 #[.pointer (some ⟨g, 0, none⟩), .int .i64 k] w fun e' w' => e' = .returned (.int .u64 0) ∧ RX w' lo g l 6 ∧ Fr w w' g none := by
  have H := Lib.hid h
  obtain ⟨v, hb, hr, _⟩ := h
  obtain ⟨a, c, rfl⟩ := hr.slice
  have hc0 : w.cell? ⟨g, 0, none⟩ = some (.slice a l.length c) := blk_cell hb 0
  have hc1 : w.cell? ⟨g, 1, none⟩ = some (.int .i64 0) := blk_cell hb 1
  have hf1 : w.frozen? ⟨g, 1, none⟩ = false := blk_frozen hb 1
  have HW := Lib.hid (rwithin_any k)
  generalize clampK k = K at *
  clear hb
  go_enter Try.func21, Try.ntmps21
  go_wp2_with (go_at_call 32; refine (HW.out _).mono ?_; rintro e w' ⟨rfl, rfl⟩)
  go_ret
  exact ⟨rfl, H.out.set_e 6, (Fr.refl _ _ _).set 1 _⟩

/-- A slice cut in front. -/
theorem RL.drop {w : World} {b off cap : Nat} {l : List Bool} (h : RL w (.slice (some ⟨b, off, none⟩) l.length cap) l) (hl : 0 < l.length) (k : Nat) (hk : k ≤ l.length) :
    RL w (.slice (if cap = k then some ⟨b, off, none⟩ else some ⟨b, off + k, none⟩) (l.length - k) (cap - k)) (l.drop k) := by
  rcases h with ⟨rfl, _⟩ | ⟨b', off', cap', hv, hc, hlt, hr⟩
  · simp at hl
  · simp only [Value.slice.injEq, Option.some.injEq, Addr.mk.injEq, true_and, and_true] at hv
    obtain ⟨⟨rfl, rfl⟩, rfl⟩ := hv
    by_cases he : k = l.length
    · subst he
      exact .inl ⟨by simp, _, _, by rw [Nat.sub_self]⟩
    · have hne : ¬ cap = k := by omega
      rw [if_neg hne]
      refine .inr ⟨b, off + k, cap - k, by rw [List.length_drop], by rw [List.length_drop]; omega, hlt, fun i hi => ?_⟩
      rw [List.length_drop] at hi
      have := hr (k + i) (by omega)
      rw [Nat.add_assoc, this]
      unfold gb
      rw [List.getD_eq_getElem?_getD, List.getD_eq_getElem?_getD, List.getElem?_drop]

/-- Behind 'r.L = r.L[k:]'. -/
theorem RX.cut {w : World} {lo g b off cap k : Nat} {l : List Bool} {e : Int} (hb : w.heap[g]? = some (.cells #[.slice (some ⟨b, off, none⟩) l.length cap, .int .i64 e] 44 (0, 0))) (hr : RL w (.slice (some ⟨b, off, none⟩) l.length cap) l)
    (hown : ∀ k, (Value.slice (some ⟨b, off, none⟩) l.length cap).ownBlock = some k → lo ≤ k ∧ k < g) (hk : k ≤ l.length) (u : Value) (hu : u = .slice (if cap = k then some ⟨b, off, none⟩ else some ⟨b, off + k, none⟩) (l.length - k) (cap - k)) :
    RX (w.setCell ⟨g, 0, none⟩ u) lo g (l.drop k) e := by
  have hbo : u.ownBlock = some b := by
    rw [hu]
    split <;> rfl
  have hbg : b ≠ g := by have := (hown b rfl).2; omega
  refine ⟨u, by rw [blk_set hb 0]; simp, ?_, fun j hj => by rw [hbo] at hj; injection hj with hj; subst hj; exact hown b rfl⟩
  have hr2 : RL w u (l.drop k) := by
    rw [hu]
    by_cases hl0 : 0 < l.length
    · exact RL.drop hr hl0 k hk
    · exact .inl ⟨by apply List.eq_nil_of_length_eq_zero; simp; omega, _, _, by rw [show l.length - k = 0 by omega]⟩
  exact hr2.fr ((Fr.refl w g none).set 0 _) (by rw [hbo]; intro e; injection e with e; exact hbg e)
/-- The same of no bits. -/
theorem RX.cut0 {w : World} {lo g c : Nat} {a : Option Addr} {e : Int} (hb : w.heap[g]? = some (.cells #[.slice a 0 c, .int .i64 e] 44 (0, 0)))
    (hown : ∀ k, (Value.slice a 0 c).ownBlock = some k → lo ≤ k ∧ k < g) (c' : Nat) : RX (w.setCell ⟨g, 0, none⟩ (.slice a 0 c')) lo g [] e :=
  ⟨.slice a 0 c', by rw [blk_set hb 0]; simp, .inl ⟨rfl, _, _, rfl⟩, fun k hk => hown k (by cases a <;> exact hk)⟩
def XGetRel (l : List Bool) (K : Nat) (w : World) (u5 u32 : Value) (wr : World) : Prop := ∃ i : Nat, i ≤ K ∧ u5 = .int .u64 (valOf (l.take i)) ∧ u32 = .int .i64 (i : Int) ∧ w = wr
set_option maxHeartbeats 1000000 in
theorem xget_ok {lo g : Nat} {l : List Bool} (k : Int) (w : World) (h : RX w lo g l 0) (hl : l.length ≤ 1000000) (hk : clampK k ≤ l.length) :
    Calls Try.prog 21 #[.pointer (some ⟨g, 0, none⟩), .int .i64 k] w fun e' w' => e' = .returned (.int .u64 (valOf (l.take (clampK k)))) ∧ RX w' lo g (l.drop (clampK k)) 0 ∧ Fr w w' g none := by
  have H := Lib.hid h
  obtain ⟨v, hb, hr, hown⟩ := h
  have HW := Lib.hid (rwithin_any k)
  have hK64 : clampK k ≤ 64 := by unfold clampK; omega
  generalize clampK k = K at *
  rcases hr with ⟨rfl, a, c, rfl⟩ | ⟨b, off, cap, rfl, hcap, hlt, hr⟩
  · obtain rfl : K = 0 := by simpa using hk
    have hc0 : w.cell? ⟨g, 0, none⟩ = some (.slice a 0 c) := blk_cell hb 0
    have hc1 : w.cell? ⟨g, 1, none⟩ = some (.int .i64 0) := blk_cell hb 1
    have hf0 : w.frozen? ⟨g, 0, none⟩ = false := blk_frozen hb 0
    go_enter Try.func21, Try.ntmps21
    go_wp2_with (go_at_call 32; refine (HW.out _).mono ?_; rintro e w' ⟨rfl, rfl⟩)
    go_loopw [5, 32] (fun u5 u32 wr => XGetRel [] 0 w u5 u32 wr) (fun _ _ _ => 0)
    case atStart => exact ⟨0, by omega, rfl, rfl, rfl⟩
    case round =>
      obtain ⟨i, hi, rfl, rfl, rfl⟩ := hrel
      obtain rfl : i = 0 := by omega
      have HFIN := Lib.hid (RX.cut0 hb hown)
      cases a with
      | none =>
        go_wp2_with fail
        go_ret
        exact ⟨rfl, HFIN.out _, (Fr.refl _ _ _).set 0 _⟩
      | some a =>
        go_wp2_with fail
        go_ret
        exact ⟨rfl, HFIN.out _, (Fr.refl _ _ _).set 0 _⟩
  · have hc0 : w.cell? ⟨g, 0, none⟩ = some (.slice (some ⟨b, off, none⟩) l.length cap) := blk_cell hb 0
    have hc1 : w.cell? ⟨g, 1, none⟩ = some (.int .i64 0) := blk_cell hb 1
    have hf0 : w.frozen? ⟨g, 0, none⟩ = false := blk_frozen hb 0
    have HR := Lib.hid hr
    clear hr
    go_enter Try.func21, Try.ntmps21
    go_wp2_with (go_at_call 32; refine (HW.out _).mono ?_; rintro e w' ⟨rfl, rfl⟩)
    go_loopw [5, 32] (fun u5 u32 wr => XGetRel l K w u5 u32 wr) (fun _ u32 _ => K - (intOf u32).toNat)
    case atStart => exact ⟨0, by omega, rfl, rfl, rfl⟩
    case round =>
      obtain ⟨i, hi, rfl, rfl, rfl⟩ := hrel
      by_cases hiK : i < K
      · have hil : i < l.length := by omega
        have hci := HR.out i hil
        have hv := valOf_bound (l.take i)
        have hvs : valOf (l.take (i + 1)) = 2 * valOf (l.take i) + bv (gb l i) := by
          rw [List.take_succ_eq_append_getElem hil, valOf_snoc]
          unfold gb
          rw [List.getD_eq_getElem?_getD, List.getElem?_eq_getElem hil]
          rfl
        have HVS := Lib.hid hvs
        have hv1 : valOf (l.take i) < 9223372036854775808 := by
          have h1 := pow_le (i := (l.take i).length) (j := 63) (by rw [List.length_take]; omega)
          have e : (2 : Int) ^ 63 = 9223372036854775808 := by decide
          omega
        have hv0 := hv.1
        clear hvs hv
        generalize valOf (l.take i) = V at *
        cases hbit : gb l i with
        | false =>
          rw [hbit] at hci HVS
          clear hbit
          go_wp2_with fail
          go_roundw
          case rel => exact ⟨i + 1, by omega, by rw [HVS.out, bv_false, Int.add_zero, Int.mul_comm], by go_num, rfl⟩
          case measure => simp [intOf]; omega
        | true =>
          rw [hbit] at hci HVS
          clear hbit
          go_wp2_with fail
          go_roundw
          case rel => exact ⟨i + 1, by omega, by rw [HVS.out, bv_true, Int.mul_comm], by go_num, rfl⟩
          case measure => simp [intOf]; omega
      · obtain rfl : i = K := by omega
        have hbg : b ≠ g := by have := (hown b rfl).2; omega
        have hfin := RX.cut hb (.inr ⟨b, off, cap, rfl, hcap, hlt, HR.out⟩) hown hk
        have HFIN := Lib.hid hfin
        clear hfin
        go_wp2_with fail
        all_goals go_ret
        · exact ⟨rfl, HFIN.out _ (by rw [if_pos (by omega)]; congr 1; omega), (Fr.refl _ _ _).set 0 _⟩
        · exact ⟨rfl, HFIN.out _ (by rw [if_neg (by omega)]), (Fr.refl _ _ _).set 0 _⟩

/-- What the document's Get comes to. -/
def xgetR (l : List Bool) (e : Int) (K : Nat) : Int × List Bool × Int :=
  if e = 0 then if K ≤ l.length then (valOf (l.take K), l.drop K, 0) else (0, l, 6) else (0, l, e)
theorem xget_any {lo g : Nat} {l : List Bool} {e : Int} (k : Int) (w : World) (h : RX w lo g l e) (hl : l.length ≤ 1000000) :
    Calls Try.prog 21 #[.pointer (some ⟨g, 0, none⟩), .int .i64 k] w fun e' w' => e' = .returned (.int .u64 (xgetR l e (clampK k)).1) ∧ RX w' lo g (xgetR l e (clampK k)).2.1 (xgetR l e (clampK k)).2.2 ∧ Fr w w' g none := by
  unfold xgetR
  by_cases he : e = 0
  · subst he
    rw [if_pos rfl]
    by_cases hk : clampK k ≤ l.length
    · rw [if_pos hk]; exact xget_ok k w h hl hk
    · rw [if_neg hk]; exact xget_short (l := l) k w h hl (by omega)
  · rw [if_neg he]; exact xget_err k w h he
/-- Both readers tell the same. -/
theorem xget_same (P : List Int) (m : Nat) (e : Int) (K : Nat) (hm : m ≤ 8 * P.length) : xgetR (rest P m) e K = ((getR P m e K).1, rest P (getR P m e K).2.1, (getR P m e K).2.2) := by
  unfold xgetR getR
  rw [rest_length]
  by_cases he : e = 0
  · rw [if_pos he, if_pos he]
    by_cases hk : m + K ≤ 8 * P.length
    · rw [if_pos hk, if_pos (by omega)]
      simp only [getV, rest, List.drop_drop]
    · rw [if_neg hk, if_neg (by omega)]
  · rw [if_neg he, if_neg he]
end Go.Proofs.Ytcooeopcjomhoaa
