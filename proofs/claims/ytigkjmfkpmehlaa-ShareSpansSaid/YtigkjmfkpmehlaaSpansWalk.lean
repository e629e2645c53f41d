/- The walk of ShareSpans. (Printed by wip/ids/spansw.py.) -/
import Derived.Test.YtigkjmfkpmehlaaFill
namespace Go.Proofs.Ytigkjmfkpmehlaa
open Go.RowKit

set_option maxRecDepth 100000 in
set_option maxHeartbeats 6400000 in
theorem sspans_any {ys : List Int} {v : Value} (w : World) (h : BS w v ys) (hy : ∀ x ∈ ys, 0 ≤ x ∧ x ≤ 255) (hl : ys.length ≤ 9223372036854775807) : Calls Try.prog 13 #[v] w fun e w' => e = .returned (.bool true) ∧ Below w.heap.size w w' := by
  have HB := Lib.hid h
  have HY := Lib.hid hy
  clear h hy
  have hb := Below.refl w.heap.size w
  have hnd := mkT_norm ys
  obtain ⟨t1, htt⟩ : ∃ t, mkT ys = t := ⟨_, rfl⟩
  rw [htt] at hnd
  have HM := Lib.hid htt
  obtain ⟨n1, d1⟩ := hnd
  have hd1 : t1.depth ≤ 16 := by omega
  have hc1 := ct_small hd1
  have HS := Lib.hid (sm_spans hd1)
  have HSA := Lib.hid (show t1.same t1 = true by unfold T.same; rw [(cov_iff n1 n1).2 (fun _ h => h)]; rfl)
  have N1 := Lib.hid n1
  obtain ⟨L, hL⟩ : ∃ L, spN t1 0 65536 = L := ⟨_, rfl⟩
  have hlen : L.length ≤ 1000000 := by rw [← hL, len_sp]; omega
  rw [hL] at HS
  have HL := Lib.hid hL
  clear htt d1 n1 hL
  go_enter Try.func13, Try.ntmps13
  go_upto_region 4 with (first
    | (go_at_call 15; refine Calls.mono (awake3_any _) ?_; rintro e wn ⟨rfl, hk⟩; have hb := hb.trans (hk.mono hb.size); clear hk)
    | (go_at_call 42; refine Calls.mono (made3_is _ (HB.out.below hb) HY.out hl HM.out) ?_; rintro e wn ⟨v, p, rfl, hv, hp, hkk⟩; obtain ⟨o1, q1, rfl, ho⟩ := hv.shape'; have H1 := Lib.hid hv; have HP := Lib.hid hp; have hb := hb.trans (hkk.mono hb.size); clear hv hp hkk))
  have b1 := Bx.new wn o1 q1
  have H1 := Lib.hid (H1.out.alloc (.cells #[.bool o1, .pointer q1] 31))
  have HP := Lib.hid (HP.out.alloc (.cells #[.bool o1, .pointer q1] 31))
  have hb := hb.alloc hb.size (.cells #[.bool o1, .pointer q1] 31)
  generalize wn.alloc (.cells #[.bool o1, .pointer q1] 31) = wz at *
  obtain ⟨X1, eX1⟩ : ∃ X1, wn.heap.size = X1 := ⟨_, rfl⟩
  rw [eX1] at b1 ⊢
  have c10 := b1.c0
  have c11 := b1.c1
  obtain ⟨g1, _, _, rfl, _⟩ := HP.out.shape
  go_upto_region 5 with (first
    | (go_at_call 49; refine Calls.mono (Spans_at _ H1.out hd1 hc1) ?_; rintro e wn ⟨u, rfl, hu, hkk⟩; rw [HL.out] at hu; obtain ⟨aA, cA, rfl, _⟩ := id hu; have HU := Lib.hid hu; have hb := hb.trans (hkk.mono hb.size); have b1 := b1.below hkk; have H1 := Lib.hid (H1.out.below hkk); have HP := Lib.hid (HP.out.below hkk); clear c10 c11; have c10 := b1.c0; have c11 := b1.c1; clear hu hkk)
    | (go_at_call 43; refine Calls.mono (rspans_at _ HP.out hc1 HL.out) ?_; rintro e wn ⟨u, rfl, hu, hkk⟩; obtain ⟨aB, cB, rfl⟩ := hu.len; have HR := Lib.hid hu; have hb := hb.trans (hkk.mono hb.size); have b1 := b1.below hkk; have H1 := Lib.hid (H1.out.below hkk); have HP := Lib.hid (HP.out.below hkk); have HU := Lib.hid (HU.out.below hkk); clear c10 c11; have c10 := b1.c0; have c11 := b1.c1; clear hu hkk))
  rename World => wz
  by_cases h0 : L = []
  · have HRA := HR.out.2 h0
    simp only [Value.slice.injEq] at HRA
    obtain ⟨rfl, _, rfl⟩ := HRA
    subst h0
    simp only [List.length_nil]
    have HU' := HU.out
    simp only [List.length_nil] at HU'
    have HU := Lib.hid HU'
    clear HU'
    go_wp2_with fail
    go_loopw [29] (fun u29 wr => wr = wz ∧ u29 = .int .i64 0) (fun _ _ => 0)
    case atStart => exact ⟨rfl, rfl⟩
    case round =>
      obtain ⟨rfl, rfl⟩ := hrel
      go_upto_region 14 with (go_at_call 50; refine Calls.mono (Of_any _ N1.out hd1 (by rw [HL.out]; exact HU.out)) ?_; rintro e wn ⟨u, rfl, hu, hkk⟩; obtain ⟨o2, q2, rfl, _⟩ := hu.shape'; have H2 := Lib.hid hu; have hb := hb.trans (hkk.mono hb.size); have b1 := b1.below hkk; have H1 := Lib.hid (H1.out.below hkk); clear c10 c11; have c10 := b1.c0; have c11 := b1.c1; clear hu hkk)
      have b2 := Bx.new wn o2 q2
      have b1 := b1.alloc (.cells #[.bool o2, .pointer q2] 31)
      have H1 := Lib.hid (H1.out.alloc (.cells #[.bool o2, .pointer q2] 31))
      have H2 := Lib.hid (H2.out.alloc (.cells #[.bool o2, .pointer q2] 31))
      have hb := hb.alloc hb.size (.cells #[.bool o2, .pointer q2] 31)
      generalize wn.alloc (.cells #[.bool o2, .pointer q2] 31) = wz at *
      obtain ⟨X2, eX2⟩ : ∃ X2, wn.heap.size = X2 := ⟨_, rfl⟩
      rw [eX2] at b2 ⊢
      clear c10 c11
      have c10 := b1.c0
      have c11 := b1.c1
      have c20 := b2.c0
      have c21 := b2.c1
      go_wp2_with (go_at_call 35; refine Calls.mono (by have := Same_any _ H1.out H2.out; rw [HSA.out] at this; exact this) ?_; rintro e wn ⟨rfl, hkk⟩; have hb := hb.trans (hkk.mono hb.size); clear hkk)
      go_ret
      exact ⟨by trivial, hb⟩

  · have hx1 : 1 ≤ L.length := by cases L with | nil => exact absurd rfl h0 | cons _ _ => simp
    clear h0
    obtain ⟨gB, cB', hvB, hcB⟩ := HR.out.some hx1
    simp only [Value.slice.injEq] at hvB
    obtain ⟨rfl, _, rfl⟩ := hvB
    have hcap : (L.length : Int) ≤ (cB : Int) := by
      rcases HR.out.1.2 with ⟨hh, _⟩ | ⟨g', cap', cur, hv, _, _, hn, _⟩
      · simp at hh
      · simp only [Value.slice.injEq] at hv
        omega
    obtain ⟨aA', cA', hvA, hcA⟩ := HU.out
    simp only [Value.slice.injEq] at hvA
    obtain ⟨rfl, _, rfl⟩ := hvA
    obtain ⟨gA, rfl, hcapA, hcA⟩ : ∃ g, aA = some ⟨g, 0, none⟩ ∧ L.length ≤ cA ∧ ∀ j p, L[j]? = some p → wz.cell? ⟨g, j, none⟩ = some (cx (fp p)) := by
      rcases hcA with ⟨_, h⟩ | h
      · rw [h] at hx1
        simp at hx1
      · exact h
    have hcapA : (L.length : Int) ≤ (cA : Int) := by omega
    have HC := Lib.hid (fun (wr : World) (k : Below wz.heap.size wz wr) j p hj => (k.cell (p := ⟨gA, j, none⟩) (World.block_lt_of_cell? wz _ (hcA j p hj))).trans (hcA j p hj))
    clear hcA hcB
    have hq := Below.refl wz.heap.size wz
    go_wp2_with fail
    go_loopw [29] (fun u29 wr => Below wz.heap.size wz wr ∧ ∃ j : Nat, j ≤ L.length ∧ u29 = .int .i64 (j : Int)) (fun u29 _ => L.length - (intOf u29).toNat)
    case atStart => exact ⟨hq, 0, by omega, rfl⟩
    case round =>
      obtain ⟨hkk, j, hj, rfl⟩ := hrel
      by_cases hlt : j < L.length
      · have hx : L[j]? = some L[j] := List.getElem?_eq_getElem hlt
        have hc := HC.out wr hkk j L[j] hx
        have hw1 := (HR.out.below hkk)
        have hc0 := hw1.1.cellAt (g := gB) (cap := cB) (j * 2) (by omega)
        have hc1' := hw1.1.cellAt (g := gB) (cap := cB) (j * 2 + 1) (by omega)
        rw [sc_0, hx] at hc0
        rw [sc_1, hx] at hc1'
        simp only [Option.map_some] at hc0 hc1'
        have hsj := HS.out L[j] (List.getElem_mem hlt)
        generalize L[j] = c at *
        obtain ⟨c1, c2⟩ := c
        simp only [cx, fp] at hc hc0 hc1' hsj
        obtain ⟨hs1, hs2⟩ := hsj
        have hs1 : c1 < 2 ^ 50 := by omega
        have hs2 : c2 < 2 ^ 50 := by omega
        obtain ⟨x, hx'⟩ : ∃ x, fl c1 = x := ⟨_, rfl⟩
        obtain ⟨y, hy'⟩ : ∃ y, fl c2 = y := ⟨_, rfl⟩
        rw [hx', hy'] at hc
        have HX := Lib.hid hx'
        have HY2 := Lib.hid hy'
        have HC1 := Lib.hid (fun (wq : World) (k : Below wr.heap.size wr wq) => (k.cell (p := ⟨gB, j * 2 + 1, none⟩) (World.block_lt_of_cell? wr _ hc1')).trans hc1')
        clear hx hw1 hx' hy'
        go_wp2_with (first
          | (go_at_call 47; (with_reducible refine Calls.mono (is_at _ hs1 HX.out) ?_); rintro e wn ⟨rfl, hk⟩; have hkk := hkk.trans (hk.mono hkk.size); have hc1' := HC1.out _ hk; clear hk)
          | (go_at_call 47; (with_reducible refine Calls.mono (is_at _ hs2 HY2.out) ?_); rintro e wn ⟨rfl, hk⟩; have hkk := hkk.trans (hk.mono hkk.size); clear hk))
        exact ⟨⟨hkk, j + 1, by omega, by go_num⟩, by simp [intOf]; omega⟩
      · obtain rfl : j = L.length := by omega
        have hb := hb.trans (hkk.mono hb.size)
        have b1 := b1.below hkk
        have H1 := Lib.hid (H1.out.below hkk)
        have HU := Lib.hid (HU.out.below hkk)
        clear c10 c11
        have c10 := b1.c0
        have c11 := b1.c1
        clear hkk
        go_upto_region 14 with (go_at_call 50; refine Calls.mono (Of_any _ N1.out hd1 (by rw [HL.out]; exact HU.out)) ?_; rintro e wn ⟨u, rfl, hu, hkk⟩; obtain ⟨o2, q2, rfl, _⟩ := hu.shape'; have H2 := Lib.hid hu; have hb := hb.trans (hkk.mono hb.size); have b1 := b1.below hkk; have H1 := Lib.hid (H1.out.below hkk); clear c10 c11; have c10 := b1.c0; have c11 := b1.c1; clear hu hkk)
        have b2 := Bx.new wn o2 q2
        have b1 := b1.alloc (.cells #[.bool o2, .pointer q2] 31)
        have H1 := Lib.hid (H1.out.alloc (.cells #[.bool o2, .pointer q2] 31))
        have H2 := Lib.hid (H2.out.alloc (.cells #[.bool o2, .pointer q2] 31))
        have hb := hb.alloc hb.size (.cells #[.bool o2, .pointer q2] 31)
        generalize wn.alloc (.cells #[.bool o2, .pointer q2] 31) = wz at *
        obtain ⟨X2, eX2⟩ : ∃ X2, wn.heap.size = X2 := ⟨_, rfl⟩
        rw [eX2] at b2 ⊢
        clear c10 c11
        have c10 := b1.c0
        have c11 := b1.c1
        have c20 := b2.c0
        have c21 := b2.c1
        go_wp2_with (go_at_call 35; refine Calls.mono (by have := Same_any _ H1.out H2.out; rw [HSA.out] at this; exact this) ?_; rintro e wn ⟨rfl, hkk⟩; have hb := hb.trans (hkk.mono hb.size); clear hkk)
        go_ret
        exact ⟨by trivial, hb⟩

end Go.Proofs.Ytigkjmfkpmehlaa
