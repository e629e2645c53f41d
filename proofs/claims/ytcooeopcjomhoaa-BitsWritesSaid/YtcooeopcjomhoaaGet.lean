/- The bit reader's Get. -/
import Derived.Test.YtcooeopcjomhoaaReader
namespace Go.Proofs.Ytcooeopcjomhoaa
open Go.RowKit Plain

def bitAt (P : List Int) (j : Nat) : Bool := P.getD (j / 8) 0 / 2 ^ (7 - j % 8) % 2 == 1
/-- The bits of bytes. -/
def ub (P : List Int) : List Bool := (List.range (8 * P.length)).map (bitAt P)
/-- What is left from the place m on. -/
def rest (P : List Int) (m : Nat) : List Bool := (ub P).drop m
theorem rest_length (P : List Int) (m : Nat) : (rest P m).length = 8 * P.length - m := by simp [rest, ub]
theorem rest_get (P : List Int) (m i : Nat) (h : m + i < 8 * P.length) : (rest P m)[i]? = some (bitAt P (m + i)) := by
  simp [rest, ub, List.getElem?_drop, h]
def getV (P : List Int) (m k : Nat) : Int := valOf ((rest P m).take k)
theorem getV_succ (P : List Int) (m i : Nat) (h : m + i < 8 * P.length) : getV P m (i + 1) = 2 * getV P m i + bv (bitAt P (m + i)) := by
  have hl : i < (rest P m).length := by rw [rest_length]; omega
  have hg := rest_get P m i h
  rw [List.getElem?_eq_getElem hl] at hg
  injection hg with hg
  unfold getV
  rw [List.take_succ_eq_append_getElem hl, valOf_snoc, hg]
theorem getV_bound (P : List Int) (m k : Nat) : 0 ≤ getV P m k ∧ getV P m k < 2 ^ k := by
  have h := valOf_bound ((rest P m).take k)
  refine ⟨h.1, Int.lt_of_lt_of_le h.2 (pow_le ?_)⟩
  exact List.length_take_le _ _

theorem RD.set_n {w : World} {lo g : Nat} {P : List Int} {m : Nat} {e : Int} (h : RD w lo g P m e) (m' : Nat) : RD (w.setCell ⟨g, 1, none⟩ (.int .i64 (m' : Int))) lo g P m' e := by
  obtain ⟨v, hb, hr, hne⟩ := h
  refine ⟨v, by rw [blk_set hb 1]; simp, ?_, hne⟩
  rcases hr with hr | ⟨b, off, cap, rfl, h1, h2, h3⟩
  · exact .inl hr
  · have hgb : b ≠ g := by have := (hne b rfl).2; omega
    exact .inr ⟨b, off, cap, rfl, h1, by simpa [World.setCell] using h2, fun j u hj => (World.cell?_of_block (blk_far _ hgb)).trans (h3 j u hj)⟩
theorem RD.drewN {w : World} {lo g : Nat} {P : List Int} {m : Nat} {e : Int} (h : RD w lo g P m e) (n : Nat) : RD (w.drewN n) lo g P m e := h
theorem Fr.drewN {a b : World} {g : Nat} {q : Option Nat} (h : Fr a b g q) (n : Nat) : Fr a (b.drewN n) g q := ⟨h.os, h.tape, h.output, h.size, h.block⟩

def GetRel (w : World) (lo g : Nat) (P : List Int) (m K : Nat) (u5 u21 : Value) (wr : World) : Prop :=
  ∃ i : Nat, i ≤ K ∧ u5 = .int .u64 (getV P m i) ∧ u21 = .int .i64 (i : Int) ∧ RD wr lo g P (m + i) 0 ∧ Fr w wr g none

theorem clamp_within (k : Int) (w : World) : Calls Try.prog 30 #[.int .i64 k] w fun e w' => e = .returned (.int .i64 (clampK k : Int)) ∧ w = w' :=
  (within_any k w).mono fun e w' ⟨he, hw⟩ => ⟨by rw [he]; exact ret_int (by unfold clampK; omega), hw⟩

theorem get_word {V y : Int} (h0 : 0 ≤ V) (h1 : V < 9223372036854775808) (h2 : 0 ≤ y) (h3 : y ≤ 255) :
    bits BinOp.or IntKind.u64 (V * 2) (IntKind.u64.wrap (bits BinOp.and IntKind.u8 y 1)) = 2 * V + y % 2 := by
  have e1 : bits BinOp.and IntKind.u8 y 1 = y % 2 := bits_mask .u8 8 (by decide) wraps_u8 1 (by decide) y h2 (by omega)
  have w64 : ∀ n : Int, 0 ≤ n → n < 2 ^ 64 → IntKind.u64.wrap n = n := fun n a b => by
    rw [IntKind.wrap_u64]; exact Int.emod_eq_of_lt a b
  have e64 : (2 : Int) ^ 64 = 18446744073709551616 := by decide
  rw [e1, w64 (y % 2) (by omega) (by omega)]
  rw [bits_join .u64 64 (by decide) w64 1 (V * 2) (y % 2) (by omega) (by omega) (by omega) (by omega) (by omega) (by omega)]
  omega
theorem bv_bit (y : Int) : bv (y % 2 == 1) = y % 2 := by
  have h : y % 2 = 0 ∨ y % 2 = 1 := by omega
  rcases h with h | h <;> rw [h] <;> rfl
set_option maxHeartbeats 1000000 in
theorem get_ok {lo g : Nat} {P : List Int} {m : Nat} (k : Int) (w : World) (h : RD w lo g P m 0) (hP : P.length ≤ 1000000) (hb : ∀ x ∈ P, 0 ≤ x ∧ x ≤ 255) (hm : m + clampK k ≤ 8 * P.length) :
    Calls Try.prog 17 #[.pointer (some ⟨g, 0, none⟩), .int .i64 k] w fun e' w' => e' = .returned (.int .u64 (getV P m (clampK k))) ∧ RD w' lo g P (m + clampK k) 0 ∧ Fr w w' g none := by
  have hK64 : clampK k ≤ 64 := by unfold clampK; omega
  have HC := Lib.hid (clamp_within k)
  generalize clampK k = K at *
  go_enter Try.func17, Try.ntmps17
  go_wp2_with fail
  refine (HC.out _).mono ?_
  rintro e w' ⟨rfl, rfl⟩
  go_wp2_with fail
  refine (err_any _ h).mono ?_
  rintro e w' ⟨rfl, rfl⟩
  have hleft := left_any w h hP (by omega)
  have HL := Lib.hid hleft
  clear hleft
  have hlt : (K : Int) ≤ ((8 * P.length - m : Nat) : Int) := by omega
  go_wp2_with (go_at_call 18; refine HL.out.mono ?_; rintro e w' ⟨rfl, nl, rfl⟩)
  go_loopw [5, 21] (fun u5 u21 wr => GetRel w lo g P m K u5 u21 wr) (fun _ u21 _ => K - (intOf u21).toNat)
  case atStart => exact ⟨0, by omega, rfl, rfl, h, (Fr.refl _ _ _).drewN nl⟩
  case round =>
    obtain ⟨i, hi, rfl, rfl, hrd, hfr⟩ := hrel
    by_cases hiK : i < K
    · have hlt2 : m + i < 8 * P.length := by omega
      have HS := Lib.hid (getV_succ P m i hlt2)
      have hv := getV_bound P m i
      have hv64 : getV P m i < 9223372036854775808 := by
        have := pow_le (i := i) (j := 63) (by omega)
        have e : (2 : Int) ^ 63 = 9223372036854775808 := by decide
        omega
      have hv0 := hv.1
      clear hv
      generalize getV P m i = V at *
      obtain ⟨M, hM⟩ : ∃ M, m + i = M := ⟨_, rfl⟩
      rw [hM] at hrd hlt2 HS
      have HM := Lib.hid hM
      clear hM
      have HRD := Lib.hid hrd
      obtain ⟨v, hb0, hr, hne⟩ := hrd
      rcases hr with ⟨_, rfl⟩ | ⟨b, off, cap, rfl, h1, h2, h3⟩
      · simp at hlt2
      have hM8 : M / 8 < P.length := by omega
      have hxr := hb (P.getD (M / 8) 0) (by rw [List.getD_eq_getElem?_getD, List.getElem?_eq_getElem hM8]; exact List.getElem_mem _)
      have hcx := h3 (M / 8) (P.getD (M / 8) 0) (by rw [List.getD_eq_getElem?_getD, List.getElem?_eq_getElem hM8]; rfl)
      have hbit : bv (bitAt P M) = P.getD (M / 8) 0 / 2 ^ (7 - M % 8) % 2 := by unfold bitAt; exact bv_bit _
      have HB := Lib.hid hbit
      clear hbit h3
      generalize P.getD (M / 8) 0 = x at *
      obtain ⟨hx0, hx1⟩ := hxr
      have hc0 : wr.cell? ⟨g, 0, none⟩ = some (.slice (some ⟨b, off, none⟩) P.length cap) := blk_cell hb0 0
      have hc1 : wr.cell? ⟨g, 1, none⟩ = some (.int .i64 (M : Int)) := blk_cell hb0 1
      have hf1 : wr.frozen? ⟨g, 1, none⟩ = false := blk_frozen hb0 1
      clear hb0
      have hi1 : 0 ≤ (M : Int) / 8 := by omega
      have hi2 : (M : Int) / 8 < (P.length : Int) := by omega
      have hw1 : IntKind.i64.wrap ((M : Int) / 8) = (M : Int) / 8 := IntWalk.i64_in _ (by omega)
      have hw2 : ((M : Int) / 8).toNat = M / 8 := by omega
      have hw3 : IntKind.i64.wrap (7 - (M : Int) % 8) = 7 - (M : Int) % 8 := IntWalk.i64_in _ (by omega)
      have hw4 : 0 ≤ 7 - (M : Int) % 8 := by omega
      go_wp2_with fail
      go_quiet (fail)
      go_wp2_with fail
      go_roundw
      case rel =>
        refine ⟨i + 1, by omega, ?_, by go_num, ?_, (hfr.drewN nq).set 1 _⟩
        · rw [HS.out, HB.out, get_word hv0 hv64 (Int.ediv_nonneg hx0 (Int.pow_nonneg (by decide))) (by have := Int.ediv_le_self (2 ^ (7 - M % 8)) hx0; omega)]
        · have := (HRD.out.drewN nq).set_n (M + 1)
          rw [show m + (i + 1) = M + 1 by have := HM.out; omega]
          exact this
      case measure => simp [intOf]; omega
    · obtain rfl : i = K := by omega
      go_wp2
      go_ret
      exact ⟨rfl, hrd, hfr⟩

set_option maxHeartbeats 1000000 in
theorem get_err {lo g : Nat} {P : List Int} {m : Nat} {e : Int} (k : Int) (w : World) (h : RD w lo g P m e) (he : e ≠ 0) :
    Calls Try.prog 17 #[.pointer (some ⟨g, 0, none⟩), .int .i64 k] w fun e' w' => e' = .returned (.int .u64 0) ∧ RD w' lo g P m e ∧ Fr w w' g none := by
  have HC := Lib.hid (clamp_within k)
  have hf := fail_any w h
  rw [if_neg he] at hf
  have HF := Lib.hid hf
  clear hf
  have hne : (e != 0) = true := by simpa using he
  generalize clampK k = K at *
  go_enter Try.func17, Try.ntmps17
  go_wp2_with fail
  refine (HC.out _).mono ?_
  rintro e w' ⟨rfl, rfl⟩
  go_wp2_with fail
  refine (err_any _ h).mono ?_
  rintro e w' ⟨rfl, rfl⟩
  go_wp2_with (go_at_call 31; refine HF.out.mono ?_; rintro e w' ⟨rfl, hrd', hfr'⟩)
  go_ret
  exact ⟨rfl, hrd', hfr'⟩

set_option maxHeartbeats 1000000 in
theorem get_short {lo g : Nat} {P : List Int} {m : Nat} (k : Int) (w : World) (h : RD w lo g P m 0) (hP : P.length ≤ 1000000) (hm0 : m ≤ 8 * P.length) (hm : 8 * P.length < m + clampK k) :
    Calls Try.prog 17 #[.pointer (some ⟨g, 0, none⟩), .int .i64 k] w fun e' w' => e' = .returned (.int .u64 0) ∧ RD w' lo g P m 6 ∧ Fr w w' g none := by
  have HC := Lib.hid (clamp_within k)
  have hf := fun n => fail_any (w.drewN n) (h.drewN n)
  have HF := Lib.hid hf
  clear hf
  have HL := Lib.hid (left_any w h hP hm0)
  generalize clampK k = K at *
  have hlt : ((8 * P.length - m : Nat) : Int) < (K : Int) := by omega
  go_enter Try.func17, Try.ntmps17
  go_wp2_with fail
  refine (HC.out _).mono ?_
  rintro e w' ⟨rfl, rfl⟩
  go_wp2_with fail
  refine (err_any _ h).mono ?_
  rintro e w' ⟨rfl, rfl⟩
  go_wp2_with (first | (go_at_call 18; refine HL.out.mono ?_; rintro e w' ⟨rfl, nl, rfl⟩) | (go_at_call 31; refine (HF.out _).mono ?_; rintro e w' ⟨rfl, hrd', hfr'⟩))
  go_ret
  exact ⟨rfl, hrd', ⟨hfr'.os, hfr'.tape, hfr'.output, hfr'.size, hfr'.block⟩⟩

/-- What Get comes to: the number, the place, the error. -/
def getR (P : List Int) (m : Nat) (e : Int) (K : Nat) : Int × Nat × Int :=
  if e = 0 then if m + K ≤ 8 * P.length then (getV P m K, m + K, 0) else (0, m, 6) else (0, m, e)

theorem get_any {lo g : Nat} {P : List Int} {m : Nat} {e : Int} (k : Int) (w : World) (h : RD w lo g P m e) (hP : P.length ≤ 1000000) (hb : ∀ x ∈ P, 0 ≤ x ∧ x ≤ 255) (hm : m ≤ 8 * P.length) :
    Calls Try.prog 17 #[.pointer (some ⟨g, 0, none⟩), .int .i64 k] w fun e' w' => e' = .returned (.int .u64 (getR P m e (clampK k)).1) ∧ RD w' lo g P (getR P m e (clampK k)).2.1 (getR P m e (clampK k)).2.2 ∧ Fr w w' g none := by
  unfold getR
  by_cases he : e = 0
  · subst he
    rw [if_pos rfl]
    by_cases hk : m + clampK k ≤ 8 * P.length
    · rw [if_pos hk]; exact get_ok k w h hP hb hk
    · rw [if_neg hk]; exact get_short (m := m) k w h hP hm (by omega)
  · rw [if_neg he]; exact get_err k w h he

theorem get_nil (k : Int) (w : World) : Calls Try.prog 17 #[.pointer none, .int .i64 k] w fun e' w' => e' = .returned (.int .u64 0) ∧ w = w' := by
  have HC := Lib.hid (clamp_within k)
  generalize clampK k = K at *
  go_enter Try.func17, Try.ntmps17
  go_wp2_with fail
  refine (HC.out _).mono ?_
  rintro e w' ⟨rfl, rfl⟩
  go_wp2_with (first | (go_at_call 26; refine (err_nil _).mono ?_; rintro e w' ⟨rfl, rfl⟩) | (go_at_call 31; refine (fail_nil _).mono ?_; rintro e w' ⟨rfl, rfl⟩))
  go_ret
  exact ⟨rfl, rfl⟩
end Go.Proofs.Ytcooeopcjomhoaa
