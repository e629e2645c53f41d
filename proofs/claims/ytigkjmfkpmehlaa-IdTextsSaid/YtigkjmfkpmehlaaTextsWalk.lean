/- kinfolkref01.Parse; the walk of IdTexts. (Printed by wip/ids/texts.py.) -/
import Derived.Test.YtigkjmfkpmehlaaRParse
namespace Go.Proofs.Ytigkjmfkpmehlaa
open Go.RowKit

theorem parseR_rp (l : List UInt8) : parseR l = (if (rp (l.length + 1) l).2.2 = false ∨ (rp (l.length + 1) l).2.1 ≠ [] then (.z, 6) else if 16 < (rp (l.length + 1) l).1.depth then (.z, 3) else ((rp (l.length + 1) l).1, 0)) := by
  have h := rid_rp (l.length + 1) l
  unfold parseR
  simp only
  generalize rid (l.length + 1) l false = q at *
  generalize rp (l.length + 1) l = r at *
  obtain ⟨t, s, b⟩ := q
  obtain ⟨t', s', ok⟩ := r
  simp only at h ⊢
  cases ok with
  | false =>
    obtain rfl : b = true := by simpa using h.1
    simp
  | true =>
    obtain ⟨rfl, hh⟩ := h
    obtain ⟨rfl, rfl⟩ := hh rfl
    simp
theorem rp_depth (l : List UInt8) (h : (rp (l.length + 1) l).2.2 = true) : (rp (l.length + 1) l).1.depth ≤ l.length := by
  rw [← ((rid_rp (l.length + 1) l).2 h).1]
  exact rid_depth _ _ _

set_option maxRecDepth 100000 in
set_option maxHeartbeats 1600000 in
theorem rparse_any (l : List UInt8) (w : World) (hl : l.length ≤ 100000) : Calls Try.prog 28 #[.string (bs l)] w fun e w' => ∃ p, e = .returned (.tuple #[p, .int .i64 (parseR l).2]) ∧ RV w' (parseR l).1 p ∧ Below w.heap.size w w' := by
  have hd := rp_depth l
  have hi := rp_any (l.length + 1) l (by omega)
  rw [parseR_rp]
  unfold RpOk at hi
  obtain ⟨⟨tI, lI, ok⟩, hr⟩ : ∃ r, rp (l.length + 1) l = r := ⟨_, rfl⟩
  rw [hr] at hi hd ⊢
  have I := Lib.hid hi
  clear hr hi
  cases ok with
  | false =>
    rw [if_pos (.inl rfl)]
    clear hd
    have hb := Below.refl w.heap.size w
    go_enter Try.func28, Try.ntmps28
    go_wp2_with (first
      | (go_at_call 59; refine Calls.mono (I.out _) ?_; rintro e wn ⟨p0, rfl, hv, hkk⟩; have hb := hb.trans (hkk.mono hb.size); have HV := Lib.hid hv; clear hv hkk)
      | (go_at_call 36; refine Calls.mono (rzero_any _) ?_; rintro e wn ⟨p, rfl, hv, hkk⟩; have hb := hb.trans (hkk.mono hb.size); have HZ := Lib.hid hv; clear hv hkk))
    obtain ⟨g, _, _, rfl, _⟩ := HZ.out.shape
    exact bodyPost_ret (v := .tuple #[.pointer (some ⟨g, 0, none⟩), .int .i64 6]) (by simp [results, go_sem, *]) rfl ⟨_, rfl, HZ.out, hb⟩
  | true =>
  have hdep : tI.depth ≤ 1000000 := by have := hd rfl; simp only at this; omega
  clear hd
  cases lI with
  | cons x s =>
    rw [if_pos (.inr (by simp))]
    have hb := Below.refl w.heap.size w
    have hp1 : 0 < (bs (x :: s)).size := by rw [bs_size]; simp
    have hx1 : (bs (x :: s))[0] = x := rfl
    have hz1 : ¬ (bs (x :: s)).size = 0 := by rw [bs_size]; simp
    have hzb1 : (((bs (x :: s)).size : Int) == 0) = false := by rw [bs_size]; simp; omega
    have hzd1 : decide (((bs (x :: s)).size : Int) = 0) = false := by rw [bs_size]; simp; omega
    have he1 : (bs (x :: s)).extract 1 (bs (x :: s)).size = bs (s) := bs_extract _ _
    go_enter Try.func28, Try.ntmps28
    go_wp2_with (first
      | (go_at_call 59; refine Calls.mono (I.out _) ?_; rintro e wn ⟨p0, rfl, hv, hkk⟩; have hb := hb.trans (hkk.mono hb.size); have HV := Lib.hid hv; clear hv hkk)
      | (go_at_call 36; refine Calls.mono (rzero_any _) ?_; rintro e wn ⟨p, rfl, hv, hkk⟩; have hb := hb.trans (hkk.mono hb.size); have HZ := Lib.hid hv; clear hv hkk))
    obtain ⟨g, _, _, rfl, _⟩ := HZ.out.shape
    exact bodyPost_ret (v := .tuple #[.pointer (some ⟨g, 0, none⟩), .int .i64 6]) (by simp [results, go_sem, *]) rfl ⟨_, rfl, HZ.out, hb⟩
  | nil =>
  rw [if_neg (by simp)]
  by_cases hq : 16 < tI.depth
  · rw [if_pos hq]
    have hb := Below.refl w.heap.size w
    have hz1 : (bs []).size = 0 := rfl
    have hzb1 : (((bs []).size : Int) == 0) = true := rfl
    have hg : decide ((16 : Int) < (tI.depth : Int)) = true := by simp; omega
    go_enter Try.func28, Try.ntmps28
    go_wp2_with (first
      | (go_at_call 59; refine Calls.mono (I.out _) ?_; rintro e wn ⟨p0, rfl, hv, hkk⟩; have hb := hb.trans (hkk.mono hb.size); have HV := Lib.hid hv; clear hv hkk)
      | (go_at_call 60; refine Calls.mono (rdepth_any _ HV.out hdep) ?_; rintro e wn ⟨rfl, hkk⟩; have hb := hb.trans (hkk.mono hb.size); have HV := Lib.hid (HV.out.below hkk); clear hkk)
      | (go_at_call 36; refine Calls.mono (rzero_any _) ?_; rintro e wn ⟨p, rfl, hv, hkk⟩; have hb := hb.trans (hkk.mono hb.size); have HZ := Lib.hid hv; clear hv hkk))
    obtain ⟨g, _, _, rfl, _⟩ := HZ.out.shape
    exact bodyPost_ret (v := .tuple #[.pointer (some ⟨g, 0, none⟩), .int .i64 3]) (by simp [results, go_sem, *]) rfl ⟨_, rfl, HZ.out, hb⟩
  · rw [if_neg hq]
    have hb := Below.refl w.heap.size w
    have hz1 : (bs []).size = 0 := rfl
    have hzb1 : (((bs []).size : Int) == 0) = true := rfl
    have hg : decide ((16 : Int) < (tI.depth : Int)) = false := by simp; omega
    go_enter Try.func28, Try.ntmps28
    go_wp2_with (first
      | (go_at_call 59; refine Calls.mono (I.out _) ?_; rintro e wn ⟨p0, rfl, hv, hkk⟩; have hb := hb.trans (hkk.mono hb.size); have HV := Lib.hid hv; clear hv hkk)
      | (go_at_call 60; refine Calls.mono (rdepth_any _ HV.out hdep) ?_; rintro e wn ⟨rfl, hkk⟩; have hb := hb.trans (hkk.mono hb.size); have HV := Lib.hid (HV.out.below hkk); clear hkk))
    obtain ⟨g, _, _, rfl, _⟩ := HV.out.shape
    exact bodyPost_ret (v := .tuple #[.pointer (some ⟨g, 0, none⟩), .int .i64 0]) (by simp [results, go_sem, *]) rfl ⟨_, rfl, HV.out, hb⟩
theorem parseR_cases (l : List UInt8) : parseR l = (.z, 6) ∨ parseR l = (.z, 3) ∨ ∃ t, parseR l = (t, 0) ∧ t.depth ≤ 16 ∧ t.text = bs l := by
  have hs := rp_str (l.length + 1) l
  rw [parseR_rp]
  generalize rp (l.length + 1) l = r at *
  by_cases h1 : r.2.2 = false ∨ r.2.1 ≠ []
  · rw [if_pos h1]
    exact .inl rfl
  rw [if_neg h1]
  by_cases h2 : 16 < r.1.depth
  · rw [if_pos h2]
    exact .inr (.inl rfl)
  rw [if_neg h2]
  refine .inr (.inr ⟨_, rfl, by omega, ?_⟩)
  have ha : r.2.2 = true := by cases h : r.2.2 with | true => rfl | false => exact absurd (.inl h) h1
  have hb : r.2.1 = [] := by
    cases h : r.2.1 with
    | nil => rfl
    | cons a b => exact absurd (.inr (by rw [h]; simp)) h1
  have := hs ha
  rw [hb, List.append_nil] at this
  rw [text_str, ← this]
theorem rparse_is (l : List UInt8) {t : T} {k : Int} (w : World) (hl : l.length ≤ 100000) (hp : parseR l = (t, k)) : Calls Try.prog 28 #[.string (bs l)] w fun e w' => ∃ p, e = .returned (.tuple #[p, .int .i64 k]) ∧ RV w' t p ∧ Below w.heap.size w w' := by
  have := rparse_any l w hl
  rw [hp] at this
  exact this
theorem bs_take (s : ByteArray) : s.extract 0 200 = bs (s.data.toList.take 200) := by
  apply ByteArray.ext
  simp only [bs, ByteArray.data_extract]
  rw [← Array.toList_inj]
  simp

set_option maxRecDepth 100000 in
set_option maxHeartbeats 3200000 in
theorem texts_any (s : ByteArray) (w : World) (hs : s.size ≤ 9223372036854775807) : Calls Try.prog 6 #[.string s] w fun e w' => e = .returned (.bool true) ∧ Below w.heap.size w w' := by
  have hb := Below.refl w.heap.size w
  go_enter Try.func6, Try.ntmps6
  go_wp2_with (first
    | (go_at_call 17; refine Calls.mono (awake_any _) ?_; rintro e wn ⟨rfl, hk⟩; have hb := hb.trans (hk.mono hb.size); clear hk))
  all_goals
    first
      | (have ht := bs_take s
         have hl : (s.data.toList.take 200).length ≤ 200 := by rw [List.length_take]; omega
         rw [ht]
         generalize s.data.toList.take 200 = l at *
         clear ht)
      | (have ht : s = bs s.data.toList := rfl
         have hl : s.data.toList.length ≤ 200 := by have : s.size = s.data.toList.length := rfl
                                                    omega
         rw [ht]
         generalize s.data.toList = l at *
         clear ht)
    rcases parseR_cases l with hp | hp | ⟨t, hp, htd, htx⟩
    · have HPR := Lib.hid hp
      clear hp
      refine Calls.mono (parse_is l _ (by omega) HPR.out) ?_
      rintro e w1 ⟨v, rfl, hv, hkk⟩
      obtain ⟨o, q, rfl, _⟩ := hv.shape'
      have HT := Lib.hid hv
      have hb := hb.trans (hkk.mono hb.size)
      clear hv hkk
      go_upto_region 5 with (fail)
      have b1 := Bx.new w1 o q
      have hb := hb.alloc hb.size (.cells #[.bool o, .pointer q] 31)
      have HT := Lib.hid (HT.out.alloc (.cells #[.bool o, .pointer q] 31))
      generalize w1.alloc (.cells #[.bool o, .pointer q] 31) = wz at *
      obtain ⟨X, eX⟩ : ∃ X, w1.heap.size = X := ⟨_, rfl⟩
      rw [eX] at b1 ⊢
      go_upto_region 6 with (go_at_call 28; refine Calls.mono (rparse_is l _ (by omega) HPR.out) ?_; rintro e wn ⟨p, rfl, hp, hkk⟩; have hb := hb.trans (hkk.mono hb.size); (try have HT := Lib.hid (HT.out.below hkk)); (try have HP := Lib.hid (HP.out.below hkk)); (try have b1 := b1.below hkk); have HP := Lib.hid hp; clear hp hkk; have c10 := b1.c0; have c11 := b1.c1)
      go_wp2_with (first
        | (go_at_call 29; refine Calls.mono (like_any _ (by decide) HT.out HP.out) ?_; rintro e wn ⟨rfl, hkk⟩; have hb := hb.trans (hkk.mono hb.size); (try have HT := Lib.hid (HT.out.below hkk)); (try have HP := Lib.hid (HP.out.below hkk)); (try have b1 := b1.below hkk); clear hkk c10 c11; have c10 := b1.c0; have c11 := b1.c1))
      go_ret
      exact ⟨by trivial, hb⟩
    · have HPR := Lib.hid hp
      clear hp
      refine Calls.mono (parse_is l _ (by omega) HPR.out) ?_
      rintro e w1 ⟨v, rfl, hv, hkk⟩
      obtain ⟨o, q, rfl, _⟩ := hv.shape'
      have HT := Lib.hid hv
      have hb := hb.trans (hkk.mono hb.size)
      clear hv hkk
      go_upto_region 5 with (fail)
      have b1 := Bx.new w1 o q
      have hb := hb.alloc hb.size (.cells #[.bool o, .pointer q] 31)
      have HT := Lib.hid (HT.out.alloc (.cells #[.bool o, .pointer q] 31))
      generalize w1.alloc (.cells #[.bool o, .pointer q] 31) = wz at *
      obtain ⟨X, eX⟩ : ∃ X, w1.heap.size = X := ⟨_, rfl⟩
      rw [eX] at b1 ⊢
      go_upto_region 6 with (go_at_call 28; refine Calls.mono (rparse_is l _ (by omega) HPR.out) ?_; rintro e wn ⟨p, rfl, hp, hkk⟩; have hb := hb.trans (hkk.mono hb.size); (try have HT := Lib.hid (HT.out.below hkk)); (try have HP := Lib.hid (HP.out.below hkk)); (try have b1 := b1.below hkk); have HP := Lib.hid hp; clear hp hkk; have c10 := b1.c0; have c11 := b1.c1)
      go_wp2_with (first
        | (go_at_call 29; refine Calls.mono (like_any _ (by decide) HT.out HP.out) ?_; rintro e wn ⟨rfl, hkk⟩; have hb := hb.trans (hkk.mono hb.size); (try have HT := Lib.hid (HT.out.below hkk)); (try have HP := Lib.hid (HP.out.below hkk)); (try have b1 := b1.below hkk); clear hkk c10 c11; have c10 := b1.c0; have c11 := b1.c1))
      go_ret
      exact ⟨by trivial, hb⟩
    · have HPR := Lib.hid hp
      have HTX := Lib.hid htx
      clear hp htx
      refine Calls.mono (parse_is l _ (by omega) HPR.out) ?_
      rintro e w1 ⟨v, rfl, hv, hkk⟩
      obtain ⟨o, q, rfl, _⟩ := hv.shape'
      have HT := Lib.hid hv
      have hb := hb.trans (hkk.mono hb.size)
      clear hv hkk
      go_upto_region 5 with (fail)
      have b1 := Bx.new w1 o q
      have hb := hb.alloc hb.size (.cells #[.bool o, .pointer q] 31)
      have HT := Lib.hid (HT.out.alloc (.cells #[.bool o, .pointer q] 31))
      generalize w1.alloc (.cells #[.bool o, .pointer q] 31) = wz at *
      obtain ⟨X, eX⟩ : ∃ X, w1.heap.size = X := ⟨_, rfl⟩
      rw [eX] at b1 ⊢
      go_upto_region 6 with (go_at_call 28; refine Calls.mono (rparse_is l _ (by omega) HPR.out) ?_; rintro e wn ⟨p, rfl, hp, hkk⟩; have hb := hb.trans (hkk.mono hb.size); (try have HT := Lib.hid (HT.out.below hkk)); (try have HP := Lib.hid (HP.out.below hkk)); (try have b1 := b1.below hkk); have HP := Lib.hid hp; clear hp hkk; have c10 := b1.c0; have c11 := b1.c1)
      go_wp2_with (first
        | (go_at_call 29; refine Calls.mono (like_any _ (by omega) HT.out HP.out) ?_; rintro e wn ⟨rfl, hkk⟩; have hb := hb.trans (hkk.mono hb.size); (try have HT := Lib.hid (HT.out.below hkk)); (try have HP := Lib.hid (HP.out.below hkk)); (try have b1 := b1.below hkk); clear hkk c10 c11; have c10 := b1.c0; have c11 := b1.c1)
        | (go_at_call 30; refine Calls.mono (text_is _ HT.out HTX.out (by rw [HTX.out, bs_size]; omega)) ?_; rintro e wn ⟨rfl, hkk⟩; have hb := hb.trans (hkk.mono hb.size); (try have HT := Lib.hid (HT.out.below hkk)); (try have HP := Lib.hid (HP.out.below hkk)); (try have b1 := b1.below hkk); clear hkk))
      go_ret
      exact ⟨by trivial, hb⟩
end Go.Proofs.Ytigkjmfkpmehlaa
