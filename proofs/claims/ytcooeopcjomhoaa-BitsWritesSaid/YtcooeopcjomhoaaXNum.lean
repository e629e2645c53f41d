/- The document's reader: GetNum. -/
import Derived.Test.YtcooeopcjomhoaaXGet
import Derived.Test.YtcooeopcjomhoaaRef
namespace Go.Proofs.Ytcooeopcjomhoaa
open Go.RowKit Plain

theorem power_any (b : Nat) (hb : b < 64) (w : World) : Calls Try.prog 29 #[.int .i64 (b : Int)] w fun e w' => e = .returned (.int .u64 (2 ^ b)) ∧ ∃ n, w' = w.drewN n :=
  (PBitsNums.kinfolkref05_power.calls 65 b (2 ^ b) w (rpower_eq b hb 65 (by omega))).mono fun _ _ ⟨he, hd⟩ => ⟨he, hd.out⟩

theorem numS_of {l : List Bool} {t : Nat} (ht : onesUp 62 l = t) (h : gb l t = false) (hl : t + 1 + (t + 2) ≤ l.length) :
    numS l = if baseOf t + valOf ((l.drop (t + 1)).take (t + 2)) < 18446744073709551616 then some (baseOf t + valOf ((l.drop (t + 1)).take (t + 2)), t + 1 + (t + 2)) else none := by
  unfold numS
  simp only [ht]
  rw [if_pos ⟨h, hl⟩]
theorem numS_no {l : List Bool} {t : Nat} (ht : onesUp 62 l = t) (h : ¬ (gb l t = false ∧ t + 1 + (t + 2) ≤ l.length)) : numS l = none := by
  unfold numS
  simp only [ht]
  rw [if_neg h]
/-- What the document's GetNum comes to. -/
def xnumR (l : List Bool) (e : Int) : Int × List Bool × Int :=
  if e = 0 then (match numS l with | some (x, d) => (x, l.drop d, 0) | none => (0, l, 6)) else (0, l, e)
theorem xnum_same (P : List Int) (m : Nat) (e : Int) : xnumR (rest P m) e = ((numR P m e).1, rest P (numR P m e).2.1, (numR P m e).2.2) := by
  unfold xnumR numR
  by_cases he : e = 0
  · rw [if_pos he, if_pos he]
    cases numS (rest P m) with
    | none => rfl
    | some p => simp only [rest, List.drop_drop]
  · rw [if_neg he, if_neg he]

theorem gb_drop (l : List Bool) (k i : Nat) : gb (l.drop k) i = gb l (k + i) := by
  unfold gb
  rw [List.getD_eq_getElem?_getD, List.getD_eq_getElem?_getD, List.getElem?_drop]

theorem xnumR_none {L : List Bool} (h : numS L = none) : xnumR L 0 = (0, L, 6) := by unfold xnumR; rw [if_pos rfl, h]
theorem xnumR_some {L : List Bool} {x : Int} {d : Nat} (h : numS L = some (x, d)) : xnumR L 0 = (x, L.drop d, 0) := by unfold xnumR; rw [if_pos rfl, h]
theorem RX.drewN {w : World} {lo g : Nat} {l : List Bool} {e : Int} (h : RX w lo g l e) (n : Nat) : RX (w.drewN n) lo g l e := h
theorem RL.drop' {w : World} {b off cap n : Nat} {l : List Bool} (h : RL w (.slice (some ⟨b, off, none⟩) n cap) l) (hn : n = l.length) (hl : 0 < n) (k : Nat) (hk : k ≤ n) :
    RL w (.slice (if cap = k then some ⟨b, off, none⟩ else some ⟨b, off + k, none⟩) (n - k) (cap - k)) (l.drop k) := by
  subst hn
  exact h.drop hl k hk
theorem ite_block {c : Prop} [Decidable c] {b o o' n m : Nat} : (Value.slice (if c then some ⟨b, o, none⟩ else some ⟨b, o', none⟩) n m).ownBlock = some b := by split <;> rfl
def SumRel (L : List Bool) (t : Nat) (w : World) (u6 u61 : Value) (wr : World) : Prop := ∃ i : Nat, i ≤ t + 2 ∧ u6 = .int .u64 (valOf ((L.drop (t + 1)).take i)) ∧ u61 = .int .i64 (i : Int) ∧ w = wr
theorem RX.store {w : World} {lo g : Nat} {v u : Value} {l : List Bool} {e : Int} (hb : w.heap[g]? = some (.cells #[v, .int .i64 e] 44 (0, 0))) (hr : RL w u l) (hown : ∀ k, u.ownBlock = some k → lo ≤ k ∧ k < g) :
    RX (w.setCell ⟨g, 0, none⟩ u) lo g l e :=
  ⟨u, by rw [blk_set hb 0]; simp, hr.fr ((Fr.refl w g none).set 0 _) (fun e => by have := (hown g e).2; omega), hown⟩
/-- The ones: how many, what is left. -/
def OnesRel (w : World) (lo g : Nat) (L : List Bool) (u3 u4 u5 : Value) (wr : World) : Prop :=
  ∃ t n : Nat, t ≤ 62 ∧ t ≤ L.length ∧ (∀ i, i < t → gb L i = true) ∧ u4 = .int .i64 ((t + 2 : Nat) : Int) ∧ u5 = .int .u64 (baseOf t) ∧ RL w u3 (L.drop t) ∧ (∀ k, u3.ownBlock = some k → lo ≤ k ∧ k < g) ∧ wr = w.drewN n

set_option maxHeartbeats 1000000 in
theorem xnum_ok {lo g : Nat} {L : List Bool} (w : World) (h : RX w lo g L 0) (hl : L.length ≤ 1000000) :
    Calls Try.prog 23 #[.pointer (some ⟨g, 0, none⟩)] w fun e' w' => e' = .returned (.int .u64 (xnumR L 0).1) ∧ RX w' lo g (xnumR L 0).2.1 (xnumR L 0).2.2 ∧ Fr w w' g none := by
  have H := Lib.hid h
  obtain ⟨v, hb, hr, hown⟩ := h
  have HB := Lib.hid hb
  have HR := Lib.hid hr
  have HO := Lib.hid hown
  obtain ⟨a, c, rfl⟩ := hr.slice
  have hc0 : w.cell? ⟨g, 0, none⟩ = some (.slice a L.length c) := blk_cell hb 0
  have hc1 : w.cell? ⟨g, 1, none⟩ = some (.int .i64 0) := blk_cell hb 1
  have hf0 : w.frozen? ⟨g, 0, none⟩ = false := blk_frozen hb 0
  have hf1 : w.frozen? ⟨g, 1, none⟩ = false := blk_frozen hb 1
  clear hb hr hown
  go_enter Try.func23, Try.ntmps23
  go_wp2_with fail
  go_loopw [3, 4, 5] (fun u3 u4 u5 wr => OnesRel w lo g L u3 u4 u5 wr) (fun _ u4 _ _ => (64 - intOf u4).toNat)
  case atStart => exact ⟨0, 0, by omega, by omega, by simp, rfl, rfl, HR.out, HO.out, rfl⟩
  case round =>
    obtain ⟨t, n, ht, htl, hones, rfl, rfl, hr, hown, rfl⟩ := hrel
    have hbp := baseOf_pos t
    have hbl := baseOf_lt t ht
    have HBAD := Lib.hid ((H.out.drewN n).set_e 6)
    have hfr : Fr w ((w.drewN n).setCell ⟨g, 1, none⟩ (.int .i64 6)) g none := ((Fr.refl _ _ _).drewN n).set 1 _
    by_cases hLt : t < L.length
    case neg =>
      have hLe : t = L.length := by omega
      obtain ⟨a', c', rfl⟩ := hr.slice
      rw [show (L.drop t).length = 0 by simp; omega]
      have hno : numS L = none := numS_no (onesUp_of L t 62 ht hones (.inr (gb_past _ _ (by omega)))) (by omega)
      have HNO := Lib.hid (xnumR_none hno)
      clear hLe hno
      go_wp2_with fail
      go_ret
      rw [HNO.out]
      exact ⟨rfl, HBAD.out, hfr⟩
    rcases hr with ⟨hnil, _⟩ | ⟨b, off, cap, rfl, hcap, hlt, hr⟩
    · have := congrArg List.length hnil; simp at this; omega
    have hr0 : RL w (.slice (some ⟨b, off, none⟩) (L.drop t).length cap) (L.drop t) := .inr ⟨b, off, cap, rfl, hcap, hlt, hr⟩
    have hcell : ∀ i, i < L.length - t → w.cell? ⟨b, off + i, none⟩ = some (.bool (gb L (t + i))) := fun i hi => by
      rw [← gb_drop]; exact hr i (by simpa using hi)
    clear hr
    have HR0 := Lib.hid hr0
    clear hr0
    have HCELL := Lib.hid hcell
    have hc00 := hcell 0 (by omega)
    rw [Nat.add_zero, Nat.add_zero] at hc00
    clear hcell
    rw [List.length_drop] at hcap HR0 ⊢
    obtain ⟨n', hn'⟩ : ∃ n', L.length - t = n' := ⟨_, rfl⟩
    rw [hn'] at hcap HR0 HCELL ⊢
    have hn0 : 0 < n' := by omega
    have HN := Lib.hid hn'
    have hne0 : ((n' : Int) == 0) = false := beq_eq_false_iff_ne.2 (by omega)
    clear hn'
    cases hbit : gb L t with
    | true =>
      rw [hbit] at hc00
      by_cases h62 : t = 62
      · subst h62
        have hno : numS L = none := numS_no (onesUp_of L 62 62 ht hones (.inl rfl)) (by rw [hbit]; simp)
        have HNO := Lib.hid (xnumR_none hno)
        clear hno hbit
        go_wp2_with fail
        go_ret
        rw [HNO.out]
        exact ⟨rfl, HBAD.out, hfr⟩
      · have ht62 : t < 62 := by omega
        have hpow := fun wx => power_any (t + 2) (by omega) wx
        have HP := Lib.hid hpow
        clear hpow
        have hp0 : (0 : Int) < 2 ^ (t + 2) := Int.pow_pos (by decide)
        have hbs := baseOf_succ t
        have hbl2 := baseOf_lt (t + 1) (by omega)
        go_wp2_with (go_at_call 29; refine (HP.out _).mono ?_; rintro e w' ⟨rfl, nn, rfl⟩)
        go_roundw
        case rel =>
          refine ⟨t + 1, n + nn, by omega, by omega, fun i hi => ?_, by go_num, rfl, ?_, fun k hk => by rw [ite_block] at hk; exact hown k (by rw [← hk]; rfl), rfl⟩
          · by_cases hit : i = t
            · subst hit; exact hbit
            · exact hones i (by omega)
          · have := HR0.out.drop' (by rw [List.length_drop]; exact HN.out.symm) hn0 1 (by omega)
            rw [List.drop_drop] at this
            exact this
        case measure => simp [intOf]; omega
    | false =>
      rw [hbit] at hc00
      have htt := onesUp_of L t 62 ht hones (.inr hbit)
      by_cases hlen : t + 1 + (t + 2) ≤ L.length
      · have hns := numS_of htt hbit hlen
        have HNS := Lib.hid hns
        have hlen' : 1 + (t + 2) ≤ n' := by have := HN.out; omega
        have hcap2 : 1 + (t + 2) ≤ cap := by omega
        have hcn1 : ¬ cap = 1 := by omega
        clear hns hbit htt hlen
        go_wp2_with fail
        go_loopw [6, 61] (fun u6 u61 wr => SumRel L t (w.drewN n) u6 u61 wr) (fun _ u61 _ => (t + 2) - (intOf u61).toNat)
        case atStart => exact ⟨0, by omega, rfl, rfl, rfl⟩
        case round =>
          obtain ⟨i, hi, rfl, rfl, rfl⟩ := hrel
          by_cases hiK : i < t + 2
          · have hil : i < (L.drop (t + 1)).length := by have := HN.out; simp; omega
            have hci := HCELL.out (1 + i) (by have := HN.out; omega)
            rw [← Nat.add_assoc off, ← Nat.add_assoc t] at hci
            have hv := valOf_bound ((L.drop (t + 1)).take i)
            have hvs : valOf ((L.drop (t + 1)).take (i + 1)) = 2 * valOf ((L.drop (t + 1)).take i) + bv (gb L (t + 1 + i)) := by
              rw [List.take_succ_eq_append_getElem hil, valOf_snoc, ← gb_drop]
              unfold gb
              rw [List.getD_eq_getElem?_getD, List.getElem?_eq_getElem hil]
              rfl
            have HVS := Lib.hid hvs
            have hv1 : valOf ((L.drop (t + 1)).take i) < 9223372036854775808 := by
              have h1 := pow_le (i := ((L.drop (t + 1)).take i).length) (j := 63) (by rw [List.length_take]; omega)
              have e : (2 : Int) ^ 63 = 9223372036854775808 := by decide
              omega
            have hv0 := hv.1
            clear hvs hv hc00
            generalize valOf ((L.drop (t + 1)).take i) = V at *
            cases hbit : gb L (t + 1 + i) with
            | false =>
              rw [hbit] at hci HVS
              clear hbit
              go_wp2_with fail
              go_roundw
              case rel => exact ⟨i + 1, by omega, by rw [HVS.out, bv_false, Int.add_zero, Int.mul_comm], by go_num, rfl⟩
              case measure => simp [intOf]; omega
            | true =>
              rw [hbit] at hci HVS
              clear hbit
              go_wp2_with fail
              go_roundw
              case rel => exact ⟨i + 1, by omega, by rw [HVS.out, bv_true, Int.mul_comm], by go_num, rfl⟩
              case measure => simp [intOf]; omega
          · obtain rfl : i = t + 2 := by omega
            have hv := valOf_bound ((L.drop (t + 1)).take (t + 2))
            have hv1 : valOf ((L.drop (t + 1)).take (t + 2)) < 18446744073709551616 := by
              have h1 := pow_le (i := ((L.drop (t + 1)).take (t + 2)).length) (j := 64) (by rw [List.length_take]; omega)
              have e : (2 : Int) ^ 64 = 18446744073709551616 := by decide
              omega
            have hv0 := hv.1
            clear hv hc00
            have HCUT := Lib.hid (HR0.out.drop' (by rw [List.length_drop]; exact HN.out.symm) hn0 (1 + (t + 2)) hlen')
            have HST := Lib.hid (fun u hu ho => RX.store (w := w.drewN n) (lo := lo) (g := g) (u := u) (l := (L.drop t).drop (1 + (t + 2))) HB.out hu ho)
            have HOW := Lib.hid hown
            clear hown
            generalize valOf ((L.drop (t + 1)).take (t + 2)) = V at *
            have hfr2 : ∀ u, Fr w ((w.drewN n).setCell ⟨g, 0, none⟩ u) g none := fun u => ((Fr.refl _ _ _).drewN n).set 0 _
            by_cases hov : baseOf t + V < 18446744073709551616
            · have hns := HNS.out
              rw [if_pos hov] at hns
              have HX := Lib.hid (xnumR_some hns)
              clear hns
              go_wp2_with fail
              all_goals go_ret
              all_goals rw [HX.out]
              all_goals rw [show t + 1 + (t + 2) = t + (1 + (t + 2)) by omega, ← List.drop_drop]
              · refine ⟨rfl, HST.out _ (show RL w _ _ from ?_) (fun k hk => HOW.out k (by rw [← hk]; rfl)), hfr2 _⟩
                have hc := HCUT.out
                rw [if_pos (by omega), show cap - (1 + (t + 2)) = 0 by omega] at hc
                exact hc
              · refine ⟨rfl, HST.out _ (show RL w _ _ from ?_) (fun k hk => HOW.out k (by rw [← hk]; rfl)), hfr2 _⟩
                have hc := HCUT.out
                rw [if_neg (by omega)] at hc
                exact hc
            · have hns := HNS.out
              rw [if_neg hov] at hns
              have HX := Lib.hid (xnumR_none hns)
              clear hns
              have hwr : IntKind.u64.wrap (baseOf t + V) = baseOf t + V - 18446744073709551616 := by rw [IntKind.wrap_u64]; omega
              go_wp2_with fail
              go_ret
              rw [HX.out]
              exact ⟨rfl, HBAD.out, hfr⟩
      · have hno : numS L = none := numS_no htt (fun c => hlen c.2)
        have HNO := Lib.hid (xnumR_none hno)
        have hlen' : n' < 1 + (t + 2) := by have := HN.out; omega
        clear hno hbit htt hlen
        go_wp2_with fail
        go_ret
        rw [HNO.out]
        exact ⟨rfl, HBAD.out, hfr⟩

set_option maxHeartbeats 1000000 in
theorem xnum_err {lo g : Nat} {l : List Bool} {e : Int} (w : World) (h : RX w lo g l e) (he : e ≠ 0) :
    Calls Try.prog 23 #[.pointer (some ⟨g, 0, none⟩)] w fun e' w' => e' = .returned (.int .u64 0) ∧ RX w' lo g l e ∧ Fr w w' g none := by
  have H := Lib.hid h
  obtain ⟨v, hb, _, _⟩ := h
  have hc1 : w.cell? ⟨g, 1, none⟩ = some (.int .i64 e) := blk_cell hb 1
  have hne : (e != 0) = true := by simpa using he
  clear hb
  go_enter Try.func23, Try.ntmps23
  go_wp2_with fail
  go_ret
  exact ⟨rfl, H.out, Fr.refl _ _ _⟩

theorem xnum_any {lo g : Nat} {l : List Bool} {e : Int} (w : World) (h : RX w lo g l e) (hl : l.length ≤ 1000000) :
    Calls Try.prog 23 #[.pointer (some ⟨g, 0, none⟩)] w fun e' w' => e' = .returned (.int .u64 (xnumR l e).1) ∧ RX w' lo g (xnumR l e).2.1 (xnumR l e).2.2 ∧ Fr w w' g none := by
  by_cases he : e = 0
  · subst he
    exact xnum_ok w h hl
  · have : xnumR l e = (0, l, e) := by unfold xnumR; rw [if_neg he]
    rw [this]
    exact xnum_err w h he

/-- What the document's End comes to. -/
def xendR (l : List Bool) (e : Int) : Int := if e = 0 then if l.length < 8 ∧ valOf l = 0 then 0 else 6 else e

def EndRel2 (w wc : World) (lo g : Nat) (l : List Bool) (e0 : Int) (u24 : Value) (wr : World) : Prop :=
  ∃ i : Nat, i ≤ l.length ∧ u24 = .int .i64 (i : Int) ∧ RX wr lo g l (if e0 = 0 ∧ valOf (l.take i) = 0 then 0 else 6) ∧ Fr w wr g none ∧ Fr wc wr g none

set_option maxHeartbeats 1000000 in
theorem xend_zero {lo g : Nat} {l : List Bool} (w : World) (h : RX w lo g l 0) (hl : l.length ≤ 1000000) :
    Calls Try.prog 25 #[.pointer (some ⟨g, 0, none⟩)] w fun e' w' => e' = .returned (.int .i64 (xendR l 0)) ∧ RX w' lo g l (xendR l 0) ∧ Fr w w' g none := by
  have H := Lib.hid h
  obtain ⟨v, hb, hr, hown⟩ := h
  have HR := Lib.hid hr
  have HO := Lib.hid hown
  obtain ⟨a, c, rfl⟩ := hr.slice
  have hc0 : w.cell? ⟨g, 0, none⟩ = some (.slice a l.length c) := blk_cell hb 0
  have hc1 : w.cell? ⟨g, 1, none⟩ = some (.int .i64 0) := blk_cell hb 1
  have hf1 : w.frozen? ⟨g, 1, none⟩ = false := blk_frozen hb 1
  have HB := Lib.hid hb
  clear hb hr hown
  go_enter Try.func25, Try.ntmps25
  go_upto_if 15 with (fail)
  go_cut [] (fun wx => RX wx lo g l (if l.length < 8 then 0 else 6) ∧ Fr w wx g none)
  case first =>
    by_cases h8 : l.length < 8
    · go_wp2_with fail
      go_meet
      rw [if_pos h8]
      exact ⟨H.out, Fr.refl _ _ _⟩
    · go_wp2_with fail
      go_meet
      rw [if_neg h8]
      exact ⟨H.out.set_e 6, (Fr.refl _ _ _).set 1 _⟩
  case rest =>
    clear hc0 hc1 hf1
    obtain ⟨hrx, hfr⟩ := hcut
    obtain ⟨e0, he0⟩ : ∃ e0 : Int, (if l.length < 8 then (0 : Int) else 6) = e0 := ⟨_, rfl⟩
    rw [he0] at hrx
    have h06 : e0 = 0 ∨ e0 = 6 := by rw [← he0]; split <;> simp
    have HE0 := Lib.hid he0
    clear he0
    have hstart : RX wc lo g l (if e0 = 0 ∧ valOf (l.take 0) = 0 then 0 else 6) := by
      rcases h06 with h | h
      · subst h; rw [if_pos ⟨rfl, rfl⟩]; exact hrx
      · subst h; rw [if_neg (fun c => absurd c.1 (by decide))]; exact hrx
    have HS := Lib.hid hstart
    clear hstart
    obtain ⟨v2, hb2, hr2, hown2⟩ := hrx
    obtain ⟨a2, c2, rfl⟩ := hr2.slice
    have hc0 : wc.cell? ⟨g, 0, none⟩ = some (.slice a2 l.length c2) := blk_cell hb2 0
    have HR2 := Lib.hid hr2
    have HO2 := Lib.hid hown2
    clear hb2 hr2 hown2
    go_wp2_with fail
    clear hc0
    go_loopw [24] (fun u24 wr => EndRel2 w wc lo g l e0 u24 wr) (fun u24 _ => l.length - (intOf u24).toNat)
    case atStart => exact ⟨0, by omega, rfl, HS.out, hfr, Fr.refl _ _ _⟩
    case round =>
      obtain ⟨i, hi, rfl, hrx, hfr2, hfr3⟩ := hrel
      by_cases hil : i < l.length
      · obtain ⟨E, hE⟩ : ∃ E : Int, (if e0 = 0 ∧ valOf (l.take i) = 0 then 0 else 6) = E := ⟨_, rfl⟩
        rw [hE] at hrx
        have HE := Lib.hid hE
        clear hE
        have HX := Lib.hid hrx
        obtain ⟨v3, hb3, _, _⟩ := hrx
        have hf1 : wr.frozen? ⟨g, 1, none⟩ = false := blk_frozen hb3 1
        have hc1 : wr.cell? ⟨g, 1, none⟩ = some (.int .i64 E) := blk_cell hb3 1
        clear hb3
        have hvs : valOf (l.take (i + 1)) = 2 * valOf (l.take i) + bv (gb l i) := by
          rw [List.take_succ_eq_append_getElem hil, valOf_snoc]
          unfold gb
          rw [List.getD_eq_getElem?_getD, List.getElem?_eq_getElem hil]
          rfl
        have hv0 := (valOf_bound (l.take i)).1
        have HVS := Lib.hid hvs
        clear hvs
        rcases HR2.out with ⟨h, _⟩ | ⟨b, off, cap, hv, hcap, hlt, hr⟩
        · rw [h] at hil; simp at hil
        simp only [Value.slice.injEq, true_and] at hv
        obtain ⟨rfl, rfl⟩ := hv
        have hbg : b ≠ g := by have := (HO2.out b rfl).2; omega
        have hci : wr.cell? ⟨b, off + i, none⟩ = some (.bool (gb l i)) := (World.cell?_of_block (a := ⟨b, off + i, none⟩) (hfr3.block b hlt hbg (by simp))).trans (hr i hil)
        clear hr
        generalize valOf (l.take i) = V at *
        cases hbit : gb l i with
        | false =>
          rw [hbit] at hci HVS
          clear hbit
          go_wp2_with fail
          go_roundw
          case rel =>
            refine ⟨i + 1, by omega, by go_num, ?_, hfr2, hfr3⟩
            rw [HVS.out, bv_false]
            have hx := HX.out
            rw [← HE.out] at hx
            by_cases hc : e0 = 0 ∧ V = 0
            · rw [if_pos hc] at hx
              rw [if_pos ⟨hc.1, by omega⟩]; exact hx
            · rw [if_neg hc] at hx
              rw [if_neg (fun c => hc ⟨c.1, by omega⟩)]; exact hx
          case measure => simp [intOf]; omega
        | true =>
          rw [hbit] at hci HVS
          clear hbit
          go_wp2_with fail
          go_roundw
          case rel =>
            refine ⟨i + 1, by omega, by go_num, ?_, hfr2.set 1 _, hfr3.set 1 _⟩
            rw [HVS.out, bv_true, if_neg (fun c => by omega)]
            exact HX.out.set_e 6
          case measure => simp [intOf]; omega
      · obtain rfl : i = l.length := by omega
        have hres : (if e0 = 0 ∧ valOf (l.take l.length) = 0 then (0 : Int) else 6) = xendR l 0 := by
          unfold xendR
          rw [List.take_length, if_pos rfl, ← HE0.out]
          by_cases h8 : l.length < 8
          · rw [if_pos h8]
            by_cases hv : valOf l = 0
            · rw [if_pos ⟨rfl, hv⟩, if_pos ⟨h8, hv⟩]
            · rw [if_neg (fun c => hv c.2), if_neg (fun c => hv c.2)]
          · rw [if_neg h8, if_neg (fun c => absurd c.1 (by decide)), if_neg (fun c => h8 c.1)]
        rw [hres] at hrx
        have HX := Lib.hid hrx
        obtain ⟨v3, hb3, _, _⟩ := hrx
        have hc1 : wr.cell? ⟨g, 1, none⟩ = some (.int .i64 (xendR l 0)) := blk_cell hb3 1
        clear hb3 hres
        go_wp2_with fail
        go_ret
        exact ⟨rfl, HX.out, hfr2⟩

set_option maxHeartbeats 1000000 in
theorem xend_err {lo g : Nat} {l : List Bool} {e : Int} (w : World) (h : RX w lo g l e) (he : e ≠ 0) :
    Calls Try.prog 25 #[.pointer (some ⟨g, 0, none⟩)] w fun e' w' => e' = .returned (.int .i64 e) ∧ RX w' lo g l e ∧ Fr w w' g none := by
  have H := Lib.hid h
  obtain ⟨v, hb, _, _⟩ := h
  have hc1 : w.cell? ⟨g, 1, none⟩ = some (.int .i64 e) := blk_cell hb 1
  have hne : (e == 0) = false := by simpa using he
  clear hb
  go_enter Try.func25, Try.ntmps25
  go_wp2_with fail
  go_ret
  exact ⟨rfl, H.out, Fr.refl _ _ _⟩

theorem xend_any {lo g : Nat} {l : List Bool} {e : Int} (w : World) (h : RX w lo g l e) (hl : l.length ≤ 1000000) :
    Calls Try.prog 25 #[.pointer (some ⟨g, 0, none⟩)] w fun e' w' => e' = .returned (.int .i64 (xendR l e)) ∧ RX w' lo g l (xendR l e) ∧ Fr w w' g none := by
  by_cases he : e = 0
  · subst he
    exact xend_zero w h hl
  · have : xendR l e = e := by unfold xendR; rw [if_neg he]
    rw [this]
    exact xend_err w h he
theorem xend_same (P : List Int) (m : Nat) (e : Int) : xendR (rest P m) e = endR P m e := by
  unfold xendR endR getV
  rw [rest_length, List.take_of_length_le (by rw [rest_length]; omega)]
end Go.Proofs.Ytcooeopcjomhoaa
