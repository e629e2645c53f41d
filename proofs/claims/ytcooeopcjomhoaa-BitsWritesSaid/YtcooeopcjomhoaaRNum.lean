/- The bit reader's Num and End. -/
import Derived.Test.YtcooeopcjomhoaaGet
namespace Go.Proofs.Ytcooeopcjomhoaa
open Go.RowKit Plain

theorem jump_weak {l : Nat} {J : Act → World → Prop} {Q : Exit → Act → World → Prop} (R : Act → World → Prop) : ∀ (e : Exit) (a : Act) (w : World), Exit.jump l (fun a' w' => J a' w' ∧ R a' w') Q e a w → Exit.jump l J Q e a w := fun e a w h => by
  cases e <;> first | exact h | exact ⟨h.1, h.2.1⟩
/-- A scope in which the run jumps back to one label: the way to the label, then whatever stands behind it. -/
theorem scope_from {P : Program} {a : Act} {w : World} {Q : Exit → Act → World → Prop} {c rest : Code} (l : Nat) (J : Act → World → Prop) (μ : Act → World → Nat) (hf : findLabel c l = some (Code.skip.seq rest))
    (first : Hid (∀ a w, J a w → rest.wp P (Exit.jump l J Q) a w) → c.wp P (Exit.jump l J Q) a w)
    (pass : ∀ a w, J a w → rest.wp P (Exit.jump l (fun a' w' => J a' w' ∧ μ a' w' < μ a w) Q) a w) : (Code.scope c).wp P Q a w :=
  wp_scope_jumps l J μ hf (first (fun a w h => Code.wp_mono (jump_weak _) (pass a w h))) (fun a w h => wp_seq (wp_skip (pass a w h)))

/-- How many ones stand in front, so many at the most. -/
def onesUp : Nat → List Bool → Nat
  | 0, _ => 0
  | _, [] => 0
  | _, false :: _ => 0
  | k + 1, true :: l => onesUp k l + 1
/-- The sum of 2^2 .. 2^(t+1). -/
def baseOf (t : Nat) : Int := 4 * 2 ^ t - 4
/-- The number in front, and how many bits it has; none: there is none. -/
def numS (l : List Bool) : Option (Int × Nat) :=
  let t := onesUp 62 l
  if gb l t = false ∧ t + 1 + (t + 2) ≤ l.length then
    if baseOf t + valOf ((l.drop (t + 1)).take (t + 2)) < 18446744073709551616 then some (baseOf t + valOf ((l.drop (t + 1)).take (t + 2)), t + 1 + (t + 2)) else none
  else none
def numR (P : List Int) (m : Nat) (e : Int) : Int × Nat × Int :=
  if e = 0 then (match numS (rest P m) with | some (x, d) => (x, m + d, 0) | none => (0, m, 6)) else (0, m, e)
/-- What is still to do: b bits behind the place. -/
def tailR (P : List Int) (m b : Nat) (base : Int) (pos : Nat) (e : Int) : Int × Nat × Int :=
  if e = 0 then if pos + b ≤ 8 * P.length then if base + getV P pos b < 18446744073709551616 then (base + getV P pos b, pos + b, 0) else (0, m, 6) else (0, m, 6) else (0, m, e)

theorem onesUp_of (l : List Bool) : ∀ (t k : Nat), t ≤ k → (∀ i, i < t → gb l i = true) → (t = k ∨ gb l t = false) → onesUp k l = t := by
  induction l with
  | nil =>
    intro t k _ h1 _
    cases t with
    | zero => cases k <;> rfl
    | succ t => have := h1 0 (by omega); simp [gb] at this
  | cons b l ih =>
    intro t k hk h1 h2
    cases k with
    | zero => simp [onesUp]; omega
    | succ k =>
      cases t with
      | zero =>
        rcases h2 with h2 | h2
        · omega
        · have : b = false := by simpa [gb] using h2
          subst this; rfl
      | succ t =>
        have hb : b = true := by simpa [gb] using h1 0 (by omega)
        subst hb
        have := ih t k (by omega) (fun i hi => by simpa [gb] using h1 (i + 1) (by omega)) (by
          rcases h2 with h2 | h2
          · exact .inl (by omega)
          · exact .inr (by simpa [gb] using h2))
        simp [onesUp, this]
theorem gb_rest (P : List Int) (m i : Nat) (h : m + i < 8 * P.length) : gb (rest P m) i = bitAt P (m + i) := by
  unfold gb; rw [List.getD_eq_getElem?_getD, rest_get P m i h]; rfl
theorem gb_rest_past (P : List Int) (m i : Nat) (h : 8 * P.length ≤ m + i) : gb (rest P m) i = false := gb_past _ _ (by rw [rest_length]; omega)
theorem getV_rest (P : List Int) (m t b : Nat) : valOf (((rest P m).drop t).take b) = getV P (m + t) b := by
  unfold getV rest
  rw [List.drop_drop]
/-- The end of the ones is a nought. -/
theorem numR_nought {P : List Int} {m t : Nat} (ht : t ≤ 62) (h1 : ∀ i, i < t → bitAt P (m + i) = true) (hlt : m + t < 8 * P.length) (h0 : bitAt P (m + t) = false) :
    numR P m 0 = tailR P m (t + 2) (baseOf t) (m + t + 1) 0 := by
  have e1 : onesUp 62 (rest P m) = t := onesUp_of _ t 62 ht (fun i hi => by rw [gb_rest P m i (by omega)]; exact h1 i hi) (.inr (by rw [gb_rest P m t hlt]; exact h0))
  have hg : gb (rest P m) t = false := by rw [gb_rest P m t hlt]; exact h0
  have hle : t + 1 + (t + 2) ≤ (rest P m).length ↔ m + t + 1 + (t + 2) ≤ 8 * P.length := by rw [rest_length]; omega
  unfold numR numS tailR
  rw [if_pos rfl, if_pos rfl]
  simp only [e1, hg, true_and, hle, getV_rest]
  rw [show m + (t + 1) = m + t + 1 by omega]
  by_cases c1 : m + t + 1 + (t + 2) ≤ 8 * P.length
  · rw [if_pos c1, if_pos c1]
    by_cases c2 : baseOf t + getV P (m + t + 1) (t + 2) < 18446744073709551616
    · rw [if_pos c2, if_pos c2]
      simp only [Prod.mk.injEq, true_and, and_true]
      omega
    · rw [if_neg c2, if_neg c2]
  · rw [if_neg c1, if_neg c1]
/-- The bits are at an end among the ones. -/
theorem numR_short {P : List Int} {m t : Nat} (ht : t ≤ 62) (h1 : ∀ i, i < t → bitAt P (m + i) = true) (hlt : m + t = 8 * P.length) : numR P m 0 = (0, m, 6) := by
  have e1 : onesUp 62 (rest P m) = t := onesUp_of _ t 62 ht (fun i hi => by rw [gb_rest P m i (by omega)]; exact h1 i hi) (.inr (gb_rest_past P m t (by omega)))
  unfold numR numS
  rw [if_pos rfl]
  simp only [e1]
  rw [if_neg (by rw [rest_length]; omega)]
/-- Sixty-three ones. -/
theorem numR_ones {P : List Int} {m : Nat} (h1 : ∀ i, i < 63 → bitAt P (m + i) = true) (hlt : m + 62 < 8 * P.length) : numR P m 0 = (0, m, 6) := by
  have e1 : onesUp 62 (rest P m) = 62 := onesUp_of _ 62 62 (by omega) (fun i hi => by rw [gb_rest P m i (by omega)]; exact h1 i (by omega)) (.inl rfl)
  have hg : gb (rest P m) 62 = true := by rw [gb_rest P m 62 hlt]; exact h1 62 (by omega)
  unfold numR numS
  rw [if_pos rfl]
  simp only [e1, hg]
  rw [if_neg (by simp)]

theorem rdnum_nil (w : World) : Calls Try.prog 22 #[.pointer none] w fun e w' => e = .returned (.int .u64 0) ∧ w = w' := by
  go_enter Try.func22, Try.ntmps22
  go_wp2_with fail
  go_step3
  go_wp2_with fail
  rw [Exit.noGoto_ret]
  go_ret
  exact ⟨rfl, rfl⟩

/-- At the label: b and base. -/
def NumJ (w : World) (lo g : Nat) (P : List Int) (m : Nat) (e : Int) (a : Act) (wr : World) : Prop :=
  ∃ (t : Nat) (u13 u14 u15 u16 u17 u18 u19 u20 u21 u22 u23 : Value), a = { tmps := #[.pointer (some ⟨g, 0, none⟩), undef, .int .u64 0, .int .i64 (m : Int), .int .i64 ((t + 2 : Nat) : Int), .int .u64 (baseOf t), undef, .pointer (some ⟨g, 0, none⟩), .bool false, .pointer (some ⟨g, 0, none⟩), .pointer (some ⟨g, 0, none⟩), .pointer (some ⟨g, 1, none⟩), .int .i64 (m : Int), u13, u14, u15, u16, u17, u18, u19, u20, u21, u22, u23, undef, undef, undef, undef, undef, undef, undef, undef, undef, undef, undef, undef, undef, undef, undef, undef, undef, undef, undef, undef, undef, undef, undef, undef, undef, undef, undef, undef], defers := [] } ∧
    t ≤ 61 ∧ (t ≠ 0 → e = 0) ∧ m + t ≤ 8 * P.length ∧ (∀ i, i < t → bitAt P (m + i) = true) ∧ RD wr lo g P (m + t) e ∧ Fr w wr g none

theorem baseOf_pos (t : Nat) : 0 ≤ baseOf t := by
  have : (1 : Int) ≤ 2 ^ t := pow_le (i := 0) (Nat.zero_le t)
  unfold baseOf; omega
theorem baseOf_succ (t : Nat) : baseOf t + 2 ^ (t + 2) = baseOf (t + 1) := by
  have e1 : (2 : Int) ^ (t + 2) = 2 ^ t * 4 := by rw [Int.pow_add]; rfl
  have e2 : (2 : Int) ^ (t + 1) = 2 ^ t * 2 := rfl
  unfold baseOf; rw [e1, e2]; omega
theorem baseOf_lt (t : Nat) (h : t ≤ 62) : baseOf t < 18446744073709551616 := by
  have := pow_le h
  have e : (2 : Int) ^ 62 = 4611686018427387904 := by decide
  unfold baseOf; omega
theorem getV_one (P : List Int) (m : Nat) (h : m < 8 * P.length) : getV P m 1 = bv (bitAt P m) := by
  have := getV_succ P m 0 (by omega)
  rw [this, Nat.add_zero]
  simp [getV, valOf]
theorem clamp_1 : clampK 1 = 1 := by decide
theorem getR_err {P : List Int} {m : Nat} {e : Int} {K : Nat} (h : e ≠ 0) : getR P m e K = (0, m, e) := by unfold getR; rw [if_neg h]
theorem getR_short {P : List Int} {m K : Nat} (h : 8 * P.length < m + K) : getR P m 0 K = (0, m, 6) := by unfold getR; rw [if_pos rfl, if_neg (by omega)]
theorem getR_ok {P : List Int} {m K : Nat} (h : m + K ≤ 8 * P.length) : getR P m 0 K = (getV P m K, m + K, 0) := by unfold getR; rw [if_pos rfl, if_pos h]
theorem tailR_err {P : List Int} {m b pos : Nat} {base e : Int} (h : e ≠ 0) : tailR P m b base pos e = (0, m, e) := by unfold tailR; rw [if_neg h]
/-- Where the ways meet: ahead of the number's bits. -/
def NumT (w : World) (lo g : Nat) (P : List Int) (m : Nat) (e : Int) (s4 s5 : Value) (wr : World) : Prop :=
  ∃ (b pos : Nat) (base e1 : Int), b ≤ 64 ∧ 0 ≤ base ∧ base < 18446744073709551616 ∧ pos ≤ 8 * P.length ∧ s4 = .int .i64 (b : Int) ∧ s5 = .int .u64 base ∧ RD wr lo g P pos e1 ∧ Fr w wr g none ∧ tailR P m b base pos e1 = numR P m e

set_option maxHeartbeats 1000000 in
theorem rdnum_any {lo g : Nat} {P : List Int} {m : Nat} {e : Int} (w : World) (h : RD w lo g P m e) (hP : P.length ≤ 1000000) (hb : ∀ x ∈ P, 0 ≤ x ∧ x ≤ 255) (hm : m ≤ 8 * P.length) :
    Calls Try.prog 22 #[.pointer (some ⟨g, 0, none⟩)] w fun e' w' => e' = .returned (.int .u64 (numR P m e).1) ∧ RD w' lo g P (numR P m e).2.1 (numR P m e).2.2 ∧ Fr w w' g none := by
  have H := Lib.hid h
  obtain ⟨v, hb0, _, _⟩ := h
  have hc1 : w.cell? ⟨g, 1, none⟩ = some (.int .i64 (m : Int)) := blk_cell hb0 1
  go_enter Try.func22, Try.ntmps22
  go_wp2_with fail
  refine scope_from 0 (NumJ w lo g P m e) (fun a' _ => (64 - intOf (a'.tmps.getD 4 undef)).toNat) rfl ?_ ?_
  · intro HP
    go_wp2_with fail
    go_step3
    rename_i hK
    refine hK _ _ (HP.out _ _ ?_)
    exact ⟨0, undef, undef, undef, undef, undef, undef, undef, undef, undef, undef, undef, rfl, by omega, by simp, by omega, by simp, H.out, Fr.refl _ _ _⟩
  · rintro a' wr ⟨t, u13, u14, u15, u16, u17, u18, u19, u20, u21, u22, u23, rfl, ht, hte, hmt, hones, hrd, hfr⟩
    clear hc1 hb0
    go_upto_if 15 with (go_at_call 17; refine (get_any 1 _ hrd hP hb hmt).mono ?_; rintro e' w1 ⟨rfl, hrd1, hfr1⟩)
    go_cut [4, 5] (fun s4 s5 wx => NumT w lo g P m e s4 s5 wx)
    case first =>
      by_cases he : e = 0
      · subst he
        by_cases hend : m + t < 8 * P.length
        · rw [clamp_1, getR_ok (by omega), getV_one P _ hend] at hrd1 ⊢
          cases hbit : bitAt P (m + t) with
          | false =>
            go_wp2_with fail
            go_meet
            exact ⟨t + 2, m + t + 1, baseOf t, 0, by omega, baseOf_pos t, baseOf_lt t (by omega), by omega, by go_num, rfl, hrd1, hfr.trans (.inl rfl) hfr1, (numR_nought (by omega) hones hend hbit).symm⟩
          | true =>
            rw [bv_true]
            have hp0 : (0 : Int) < 2 ^ (t + 2) := Int.pow_pos (by decide)
            have hbp := baseOf_pos t
            have hbs := baseOf_succ t
            have hbl := baseOf_lt (t + 1) (by omega)
            by_cases h61 : t = 61
            · subst h61
              have hon62 : ∀ i, i < 62 → bitAt P (m + i) = true := fun i hi => by
                by_cases hit : i = 61
                · subst hit; exact hbit
                · exact hones i (by omega)
              have hrd2 : RD w1 lo g P (m + 62) 0 := hrd1
              have hfr2 := hfr.trans (.inl rfl) hfr1
              clear hrd1 hfr hfr1 hrd
              have HG := Lib.hid (get_any 1 w1 hrd2 hP hb (by omega))
              have hb62 := baseOf_lt 62 (by omega)
              have hbp62 := baseOf_pos 62
              go_wp2_with fail
              refine HG.out.mono ?_
              rintro e' w2 ⟨rfl, hrd3, hfr3⟩
              by_cases hend2 : m + 62 < 8 * P.length
              · rw [clamp_1, getR_ok (by omega), getV_one P _ hend2] at hrd3 ⊢
                cases hbit2 : bitAt P (m + 62) with
                | false =>
                  go_wp2_with fail
                  go_meet
                  exact ⟨64, m + 62 + 1, baseOf 62, 0, by omega, hbp62, hb62, by omega, by go_num, rfl, hrd3, hfr2.trans (.inl rfl) hfr3, (numR_nought (by omega) hon62 hend2 hbit2).symm⟩
                | true =>
                  rw [bv_true]
                  have hf := fail_any w2 hrd3
                  have HF := Lib.hid hf
                  clear hf
                  go_wp2_with (go_at_call 31; refine HF.out.mono ?_; rintro e' w3 ⟨rfl, hrd4, hfr4⟩)
                  go_meet
                  exact ⟨64, m + 62 + 1, baseOf 62, 6, by omega, hbp62, hb62, by omega, by go_num, rfl, hrd4, (hfr2.trans (.inl rfl) hfr3).trans (.inl rfl) hfr4, by
                    rw [tailR_err (by decide), numR_ones (fun i hi => by
                      by_cases hit : i = 62
                      · subst hit; exact hbit2
                      · exact hon62 i (by omega)) hend2]⟩
              · have hend' : m + 62 = 8 * P.length := by omega
                rw [clamp_1, getR_short (by omega)] at hrd3 ⊢
                go_wp2_with fail
                go_meet
                exact ⟨64, m + 62, baseOf 62, 6, by omega, hbp62, hb62, by omega, by go_num, rfl, hrd3, hfr2.trans (.inl rfl) hfr3, by rw [tailR_err (by decide), numR_short (by omega) hon62 hend']⟩
            · have ht2 : (t : Int) < 61 := by omega
              go_wp2_with fail
              go_step3
              refine ⟨rfl, ⟨t + 1, _, _, _, _, _, _, _, _, _, _, _, rfl, by omega, by simp, by omega, fun i hi => ?_, ?_, hfr.trans (.inl rfl) hfr1⟩, ?_⟩
              · by_cases hit : i = t
                · subst hit; exact hbit
                · exact hones i (by omega)
              · rw [← Nat.add_assoc]; exact hrd1
              · simp [intOf]; omega
        · have hend' : m + t = 8 * P.length := by omega
          rw [clamp_1, getR_short (by omega)] at hrd1 ⊢
          go_wp2_with fail
          go_meet
          exact ⟨t + 2, m + t, baseOf t, 6, by omega, baseOf_pos t, baseOf_lt t (by omega), by omega, by go_num, rfl, hrd1, hfr.trans (.inl rfl) hfr1, by rw [tailR_err (by decide), numR_short (by omega) hones hend']⟩
      · obtain rfl : t = 0 := by
          by_cases h0 : t = 0
          · exact h0
          · exact absurd (hte h0) he
        rw [getR_err he] at hrd1 ⊢
        go_wp2_with fail
        go_meet
        exact ⟨2, m + 0, baseOf 0, e, by omega, baseOf_pos 0, baseOf_lt 0 (by omega), by omega, by go_num, rfl, hrd1, hfr.trans (.inl rfl) hfr1, by rw [tailR_err he]; unfold numR; rw [if_neg he]⟩
    case rest =>
      clear hrd hrd1 hfr hfr1 hones
      obtain ⟨b, pos, base, e1, hb64, hbase0, hbase1, hpos, rfl, rfl, hrd, hfr, hT⟩ := hcut
      have HT := Lib.hid hT
      clear hT
      have HG := Lib.hid (get_any b wc hrd hP hb hpos)
      go_wp2_with fail
      refine HG.out.mono ?_
      rintro e' w2 ⟨rfl, hrd2, hfr2⟩
      rw [show clampK (b : Int) = b by unfold clampK; omega] at hrd2 ⊢
      have hfrx := hfr.trans (.inl rfl) hfr2
      clear hrd hfr hfr2
      by_cases he : e1 = 0
      · subst he
        by_cases hk : pos + b ≤ 8 * P.length
        · rw [getR_ok hk] at hrd2 ⊢
          have hv := getV_bound P pos b
          have hvl : getV P pos b < 18446744073709551616 := by have := pow_le hb64; have e : (2 : Int) ^ 64 = 18446744073709551616 := by decide
                                                               omega
          have hTe : tailR P m b base pos 0 = if base + getV P pos b < 18446744073709551616 then (base + getV P pos b, pos + b, 0) else (0, m, 6) := by unfold tailR; rw [if_pos rfl, if_pos hk]
          rw [HT.out] at hTe
          have HTE := Lib.hid hTe
          have hv0 := hv.1
          clear hTe hv
          dsimp only at hrd2
          generalize getV P pos b = V at *
          have HRD := Lib.hid hrd2
          obtain ⟨v2, hb2, _, _⟩ := hrd2
          have hc2 : w2.cell? ⟨g, 2, none⟩ = some (.int .i64 0) := blk_cell hb2 2
          have hc1 : w2.cell? ⟨g, 1, none⟩ = some (.int .i64 ((pos + b : Nat) : Int)) := blk_cell hb2 1
          have hf1 : w2.frozen? ⟨g, 1, none⟩ = false := blk_frozen hb2 1
          clear hb2
          by_cases hov : base + V < 18446744073709551616
          · go_wp2_with fail
            simp only [Exit.jump]
            go_ret
            rw [HTE.out, if_pos hov]
            exact ⟨rfl, HRD.out, hfrx⟩
          · have HF := Lib.hid (fail_any _ (HRD.out.set_n m))
            go_wp2_with fail
            refine HF.out.mono ?_
            rintro e' w3 ⟨rfl, hrd4, hfr4⟩
            go_wp2_with fail
            simp only [Exit.jump]
            go_ret
            rw [HTE.out, if_neg (by omega)]
            exact ⟨rfl, hrd4, (hfrx.set 1 _).trans (.inl rfl) hfr4⟩
        · rw [getR_short (by omega)] at hrd2 ⊢
          have hTe : tailR P m b base pos 0 = (0, m, 6) := by unfold tailR; rw [if_pos rfl, if_neg hk]
          rw [HT.out] at hTe
          have HTE := Lib.hid hTe
          clear hTe
          dsimp only at hrd2
          have HRD := Lib.hid hrd2
          obtain ⟨v2, hb2, _, _⟩ := hrd2
          have hc2 : w2.cell? ⟨g, 2, none⟩ = some (.int .i64 6) := blk_cell hb2 2
          have hc1 : w2.cell? ⟨g, 1, none⟩ = some (.int .i64 (pos : Int)) := blk_cell hb2 1
          have hf1 : w2.frozen? ⟨g, 1, none⟩ = false := blk_frozen hb2 1
          clear hb2
          have HF := Lib.hid (fail_any _ (HRD.out.set_n m))
          go_wp2_with fail
          refine HF.out.mono ?_
          rintro e' w3 ⟨rfl, hrd4, hfr4⟩
          go_wp2_with fail
          simp only [Exit.jump]
          go_ret
          rw [HTE.out]
          exact ⟨rfl, hrd4, (hfrx.set 1 _).trans (.inl rfl) hfr4⟩
      · rw [getR_err he] at hrd2 ⊢
        have hTe := tailR_err (P := P) (m := m) (b := b) (pos := pos) (base := base) he
        rw [HT.out] at hTe
        have HTE := Lib.hid hTe
        clear hTe
        dsimp only at hrd2
        have HRD := Lib.hid hrd2
        obtain ⟨v2, hb2, _, _⟩ := hrd2
        have hc2 : w2.cell? ⟨g, 2, none⟩ = some (.int .i64 e1) := blk_cell hb2 2
        have hc1 : w2.cell? ⟨g, 1, none⟩ = some (.int .i64 (pos : Int)) := blk_cell hb2 1
        have hf1 : w2.frozen? ⟨g, 1, none⟩ = false := blk_frozen hb2 1
        clear hb2
        have HF := Lib.hid (fail_any _ (HRD.out.set_n m))
        have hne : (e1 != 0) = true := by simpa using he
        go_wp2_with fail
        refine HF.out.mono ?_
        rintro e' w3 ⟨rfl, hrd4, hfr4⟩
        rw [if_neg he] at hrd4
        go_wp2_with fail
        simp only [Exit.jump]
        go_ret
        rw [HTE.out]
        exact ⟨rfl, hrd4, (hfrx.set 1 _).trans (.inl rfl) hfr4⟩

theorem end_nil (w : World) : Calls Try.prog 24 #[.pointer none] w fun e w' => e = .returned (.int .i64 2) ∧ w = w' := by
  go_enter Try.func24, Try.ntmps24
  go_wp2_with (go_at_call 26; refine (err_nil _).mono ?_; rintro e w' ⟨rfl, rfl⟩)
  go_ret
  exact ⟨rfl, rfl⟩

/-- What End comes to. -/
def endR (P : List Int) (m : Nat) (e : Int) : Int :=
  if e = 0 then if 8 * P.length - m < 8 ∧ getV P m (8 * P.length - m) = 0 then 0 else 6 else e

set_option maxHeartbeats 1000000 in
theorem end_ok {lo g : Nat} {P : List Int} {m : Nat} (w : World) (h : RD w lo g P m 0) (hP : P.length ≤ 1000000) (hb : ∀ x ∈ P, 0 ≤ x ∧ x ≤ 255) (hm : m ≤ 8 * P.length) (hk8 : 8 * P.length - m < 8) (hv : getV P m (8 * P.length - m) = 0) :
    Calls Try.prog 24 #[.pointer (some ⟨g, 0, none⟩)] w fun e' w' => e' = .returned (.int .i64 0) ∧ RD w' lo g P m 0 ∧ Fr w w' g none := by
  have H := Lib.hid h
  obtain ⟨v, hb0, _, _⟩ := h
  have hc1 : w.cell? ⟨g, 1, none⟩ = some (.int .i64 (m : Int)) := blk_cell hb0 1
  clear hb0
  obtain ⟨k, hk⟩ : ∃ k, 8 * P.length - m = k := ⟨_, rfl⟩
  have hL := fun n => left_any (w.drewN n) (H.out.drewN n) hP hm
  rw [hk] at hL hk8 hv
  have HL := Lib.hid hL
  clear hL
  have HG := Lib.hid (fun n => get_any (k : Int) (w.drewN n) (H.out.drewN n) hP hb hm)
  have hck : clampK (k : Int) = k := by unfold clampK; omega
  have HCK := Lib.hid hck
  have hmk : m + k ≤ 8 * P.length := by omega
  clear hck hk
  have HV := Lib.hid hv
  clear hv
  go_enter Try.func24, Try.ntmps24
  go_wp2_with (go_at_call 26; refine (err_any _ H.out).mono ?_; rintro e w' ⟨rfl, rfl⟩)
  go_quiet ((go_at_call 18; exact Calls.quiet_of (HL.out _)))
  go_wp2_with fail
  refine (HG.out nq).mono ?_
  rintro e' w2 ⟨rfl, hrd2, hfr2⟩
  rw [HCK.out, getR_ok hmk] at hrd2 ⊢
  dsimp only at hrd2
  have HRD := Lib.hid hrd2
  obtain ⟨v2, hb2, _, _⟩ := hrd2
  have hc1 : w2.cell? ⟨g, 1, none⟩ = some (.int .i64 ((m + k : Nat) : Int)) := blk_cell hb2 1
  have hf1 : w2.frozen? ⟨g, 1, none⟩ = false := blk_frozen hb2 1
  clear hb2
  have hfrx : Fr w w2 g none := ⟨hfr2.os, hfr2.tape, hfr2.output, hfr2.size, hfr2.block⟩
  rw [HV.out]
  go_wp2_with fail
  go_ret
  exact ⟨rfl, HRD.out.set_n m, hfrx.set 1 _⟩

set_option maxHeartbeats 1000000 in
theorem end_bits {lo g : Nat} {P : List Int} {m : Nat} (w : World) (h : RD w lo g P m 0) (hP : P.length ≤ 1000000) (hb : ∀ x ∈ P, 0 ≤ x ∧ x ≤ 255) (hm : m ≤ 8 * P.length) (hk8 : 8 * P.length - m < 8) (hv : getV P m (8 * P.length - m) ≠ 0) :
    Calls Try.prog 24 #[.pointer (some ⟨g, 0, none⟩)] w fun e' w' => e' = .returned (.int .i64 6) ∧ RD w' lo g P m 6 ∧ Fr w w' g none := by
  have H := Lib.hid h
  obtain ⟨v, hb0, _, _⟩ := h
  have hc1 : w.cell? ⟨g, 1, none⟩ = some (.int .i64 (m : Int)) := blk_cell hb0 1
  clear hb0
  obtain ⟨k, hk⟩ : ∃ k, 8 * P.length - m = k := ⟨_, rfl⟩
  have hL := fun n => left_any (w.drewN n) (H.out.drewN n) hP hm
  rw [hk] at hL hk8 hv
  have HL := Lib.hid hL
  clear hL
  have HG := Lib.hid (fun n => get_any (k : Int) (w.drewN n) (H.out.drewN n) hP hb hm)
  have hck : clampK (k : Int) = k := by unfold clampK; omega
  have HCK := Lib.hid hck
  have hmk : m + k ≤ 8 * P.length := by omega
  clear hck hk
  have HV := Lib.hid hv
  clear hv
  go_enter Try.func24, Try.ntmps24
  go_wp2_with (go_at_call 26; refine (err_any _ H.out).mono ?_; rintro e w' ⟨rfl, rfl⟩)
  go_quiet ((go_at_call 18; exact Calls.quiet_of (HL.out _)))
  go_wp2_with fail
  refine (HG.out nq).mono ?_
  rintro e' w2 ⟨rfl, hrd2, hfr2⟩
  rw [HCK.out, getR_ok hmk] at hrd2 ⊢
  dsimp only at hrd2
  have HRD := Lib.hid hrd2
  obtain ⟨v2, hb2, _, _⟩ := hrd2
  have hc1 : w2.cell? ⟨g, 1, none⟩ = some (.int .i64 ((m + k : Nat) : Int)) := blk_cell hb2 1
  have hf1 : w2.frozen? ⟨g, 1, none⟩ = false := blk_frozen hb2 1
  clear hb2
  have hfrx : Fr w w2 g none := ⟨hfr2.os, hfr2.tape, hfr2.output, hfr2.size, hfr2.block⟩
  have hvb : (getV P m k != 0) = true := by simpa using HV.out
  have HF := Lib.hid (fail_any _ (HRD.out.set_n m))
  generalize getV P m k = V at *
  go_wp2_with fail
  refine HF.out.mono ?_
  rintro e' w3 ⟨rfl, hrd4, hfr4⟩
  replace hrd4 : RD w3 lo g P m 6 := hrd4
  have HRD4 := Lib.hid hrd4
  obtain ⟨v4, hb4, _, _⟩ := hrd4
  have hc2 : w3.cell? ⟨g, 2, none⟩ = some (.int .i64 6) := blk_cell hb4 2
  clear hb4
  go_wp2_with fail
  go_ret
  exact ⟨rfl, HRD4.out, (hfrx.set 1 _).trans (.inl rfl) hfr4⟩

set_option maxHeartbeats 1000000 in
theorem end_long {lo g : Nat} {P : List Int} {m : Nat} (w : World) (h : RD w lo g P m 0) (hP : P.length ≤ 1000000) (hm : m ≤ 8 * P.length) (hk8 : 8 ≤ 8 * P.length - m) :
    Calls Try.prog 24 #[.pointer (some ⟨g, 0, none⟩)] w fun e' w' => e' = .returned (.int .i64 6) ∧ RD w' lo g P m 6 ∧ Fr w w' g none := by
  have H := Lib.hid h
  obtain ⟨v, hb0, _, _⟩ := h
  have hc1 : w.cell? ⟨g, 1, none⟩ = some (.int .i64 (m : Int)) := blk_cell hb0 1
  have hf1 : w.frozen? ⟨g, 1, none⟩ = false := blk_frozen hb0 1
  clear hb0
  obtain ⟨k, hk⟩ : ∃ k, 8 * P.length - m = k := ⟨_, rfl⟩
  have hL := fun n => left_any (w.drewN n) (H.out.drewN n) hP hm
  rw [hk] at hL hk8
  have HL := Lib.hid hL
  clear hL hk
  have HF := Lib.hid (fun n => fail_any _ ((H.out.drewN n).set_n m))
  go_enter Try.func24, Try.ntmps24
  go_wp2_with (go_at_call 26; refine (err_any _ H.out).mono ?_; rintro e w' ⟨rfl, rfl⟩)
  go_quiet ((go_at_call 18; exact Calls.quiet_of (HL.out _)))
  go_wp2_with fail
  have hfrx : Fr w (w.drewN nq) g none := (Fr.refl _ _ _).drewN nq
  refine (HF.out nq).mono ?_
  rintro e' w3 ⟨rfl, hrd4, hfr4⟩
  replace hrd4 : RD w3 lo g P m 6 := hrd4
  have HRD4 := Lib.hid hrd4
  obtain ⟨v4, hb4, _, _⟩ := hrd4
  have hc2 : w3.cell? ⟨g, 2, none⟩ = some (.int .i64 6) := blk_cell hb4 2
  clear hb4
  go_wp2_with fail
  go_ret
  exact ⟨rfl, HRD4.out, (hfrx.set 1 _).trans (.inl rfl) hfr4⟩

set_option maxHeartbeats 1000000 in
theorem end_err {lo g : Nat} {P : List Int} {m : Nat} {e : Int} (w : World) (h : RD w lo g P m e) (he : e ≠ 0) :
    Calls Try.prog 24 #[.pointer (some ⟨g, 0, none⟩)] w fun e' w' => e' = .returned (.int .i64 e) ∧ RD w' lo g P m e ∧ Fr w w' g none := by
  have hne : (e != 0) = true := by simpa using he
  have H := Lib.hid h
  clear h
  go_enter Try.func24, Try.ntmps24
  go_wp2_with (go_at_call 26; refine (err_any _ H.out).mono ?_; rintro e w' ⟨rfl, rfl⟩)
  go_ret
  exact ⟨rfl, H.out, Fr.refl _ _ _⟩

theorem end_any {lo g : Nat} {P : List Int} {m : Nat} {e : Int} (w : World) (h : RD w lo g P m e) (hP : P.length ≤ 1000000) (hb : ∀ x ∈ P, 0 ≤ x ∧ x ≤ 255) (hm : m ≤ 8 * P.length) :
    Calls Try.prog 24 #[.pointer (some ⟨g, 0, none⟩)] w fun e' w' => e' = .returned (.int .i64 (endR P m e)) ∧ RD w' lo g P m (endR P m e) ∧ Fr w w' g none := by
  unfold endR
  by_cases he : e = 0
  · subst he
    rw [if_pos rfl]
    by_cases hk : 8 * P.length - m < 8
    · by_cases hv : getV P m (8 * P.length - m) = 0
      · rw [if_pos ⟨hk, hv⟩]; exact end_ok w h hP hb hm hk hv
      · rw [if_neg (fun c => hv c.2)]; exact end_bits w h hP hb hm hk hv
    · rw [if_neg (fun c => hk c.1)]; exact end_long w h hP hm (by omega)
  · rw [if_neg he]; exact end_err w h he
end Go.Proofs.Ytcooeopcjomhoaa
