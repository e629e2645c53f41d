/- The walk of IdShares. (Printed by wip/ids/shares.py.) -/
import Derived.Test.YtigkjmfkpmehlaaRows2
import Derived.Deep.CutBlock
namespace Go.Proofs.Ytigkjmfkpmehlaa
open Go.RowKit

theorem two_new (w : World) (o : Bool) (q : Option Addr) : ∀ j u, [Value.bool o, .pointer q][j]? = some u → (w.alloc (.cells #[.bool o, .pointer q] 31)).cell? ((⟨w.heap.size, 0, none⟩ : Addr).add j) = some u
  | 0, u, h => by
    simp only [List.getElem?_cons_zero, Option.some.injEq] at h
    subst h
    rw [Addr.add_lit]
    exact (Bx.new w o q).c0
  | 1, u, h => by
    simp only [List.getElem?_cons_succ, List.getElem?_cons_zero, Option.some.injEq] at h
    subst h
    rw [Addr.add_lit]
    exact (Bx.new w o q).c1
  | j + 2, u, h => by simp at h
/-- Behind the first loop: parts, in a row. -/
def ShCut (w : World) (s3 : Value) (wx : World) : Prop := ∃ L : List T, Parts L ∧ L.length ≤ 21 ∧ RowT wx w.heap.size s3 L ∧ Below w.heap.size w wx
/-- The second loop: the sum of the first ones lies in the box A. -/
def ShRel2 (w : World) (A g cap : Nat) (L : List T) (u68 : Value) (wr : World) : Prop :=
  ∃ (i : Nat) (o : Bool) (q : Option Addr), i ≤ L.length ∧ u68 = .int .i64 (i : Int) ∧ Bx wr A o q ∧ IDV wr (pre .z (L.take i)) (.agg #[.bool o, .pointer q]) ∧ RowT wr w.heap.size (.slice (some ⟨g, 0, none⟩) L.length cap) L ∧ Below w.heap.size w wr
theorem RowT.far {w : World} {base g n cap C : Nat} {L : List T} {c : Bool} {d : Option Addr} (h : RowT w base (.slice (some ⟨g, 0, none⟩) n cap) L) (b : Bx w C c d) (hne : g ≠ C) (x : Bool) (y : Option Addr) : RowT ((w.setCell ⟨C, 0, none⟩ (.bool x)).setCell ⟨C, 1, none⟩ (.pointer y)) base (.slice (some ⟨g, 0, none⟩) n cap) L := by
  obtain ⟨vs, hl, h, hi⟩ := h
  refine ⟨vs, hl, h.kept (row := some C) ⟨rfl, rfl, rfl, by rw [ssz, ssz]; exact Nat.le_refl _, fun k _ hk => ?_⟩ (.inr (by simp [Value.ownBlock, hne])), fun i t p a b' => (hi i t p a b').kp (Kp.put b x y)⟩
  have hkC : k ≠ C := fun hh => hk (by rw [hh])
  exact (Below.heap_setCell _ _ _ _ hkC).trans (Below.heap_setCell _ _ _ _ hkC)
theorem depth_eq {t : T} {v : Value} {m : Nat} (w : World) (h : IDV w t v) (hm : t.depth = m) (hd : t.depth ≤ 1000000) : Calls Try.prog 20 #[v] w fun e w' => e = .returned (.int .i64 (m : Int)) ∧ Below w.heap.size w w' := by
  subst hm
  exact depth_any w h hd
theorem RowT.cap {w : World} {base g n cap : Nat} {L : List T} (h : RowT w base (.slice (some ⟨g, 0, none⟩) n cap) L) (hn : n = L.length) : L.length ≤ cap ∧ cap ≤ 9223372036854775807 := by
  subst hn
  obtain ⟨vs, _, h, _⟩ := h
  rcases h.2 with ⟨h', _⟩ | ⟨g', cap', cur, h', _, _, h1, h2, _⟩
  · simp at h'
  · simp only [Value.slice.injEq] at h'
    obtain ⟨_, _, rfl⟩ := h'
    unfold maxLen at h2
    exact ⟨h1, by omega⟩
/-- The inner loop: the part at hand is apart from the first ones. -/
def ShRel3 (w : World) (A Y g cap i : Nat) (L : List T) (S t : T) (o : Bool) (q : Option Addr) (ot : Bool) (qt : Option Addr) (u77 : Value) (wr : World) : Prop :=
  ∃ j : Nat, j ≤ i ∧ u77 = .int .i64 (j : Int) ∧ Bx wr A o q ∧ IDV wr S (.agg #[.bool o, .pointer q]) ∧ Bx wr Y ot qt ∧ IDV wr t (.agg #[.bool ot, .pointer qt]) ∧ RowT wr w.heap.size (.slice (some ⟨g, 0, none⟩) L.length cap) L ∧ Below w.heap.size w wr
theorem info31 : (Try.prog.info? 31).map (fun i => (i.zero, i.size, i.bytes)) = some (some (.agg #[.bool false, .pointer none]), 2, 16) := by kernel_rfl
/-- The first loop: some rounds are done. -/
def ShRel (w : World) (n : Nat) (u3 u23 : Value) (wr : World) : Prop :=
  ∃ (i : Nat) (L : List T), i ≤ n ∧ u23 = .int .i64 (i : Int) ∧ Parts L ∧ L.length ≤ i + 1 ∧ L.length ≤ 21 ∧ RowT wr w.heap.size u3 L ∧ Below w.heap.size w wr

set_option maxRecDepth 100000 in
set_option maxHeartbeats 6400000 in
theorem shares_any {ys : List Int} {v : Value} (w : World) (h : BS w v ys) (hy : ∀ x ∈ ys, 0 ≤ x ∧ x ≤ 255) (hl : ys.length ≤ 9223372036854775807) : Calls Try.prog 4 #[v] w fun e w' => e = .returned (.bool true) ∧ Below w.heap.size w w' := by
  have HB := Lib.hid h
  have HY := Lib.hid hy
  obtain ⟨a, c, rfl⟩ := h.shape
  clear h hy
  have hb := Below.refl w.heap.size w
  obtain ⟨i0, hi0, hz0, hz1, hz2⟩ := info_parts info31
  go_enter Try.func4, Try.ntmps4
  go_upto_region 4 with (first
    | (go_at_call 17; refine Calls.mono (awake_any _) ?_; rintro e wn ⟨rfl, hk⟩; have hb := hb.trans (hk.mono hb.size); clear hk)
    | (go_at_call 18; refine Calls.mono (one_any _) ?_; rintro e wn ⟨v, rfl, rfl, hk⟩; have hb := hb.trans (hk.mono hb.size); clear hk))
  have hrow := RowT.one (t := .o) (o := true) (q := none) wn hb.size rfl
  have hb := hb.alloc hb.size (.cells #[.bool true, .pointer none] 31)
  generalize wn.alloc (.cells #[.bool true, .pointer none] 31) = wz at *
  obtain ⟨X, eX⟩ : ∃ X, wn.heap.size = X := ⟨_, rfl⟩
  rw [eX] at hrow ⊢
  go_upto_block 0 with (fail)
  go_cut [3] (fun s3 wx => ShCut w s3 wx)
  case first =>
    go_wp2_with fail
    go_loopw [3, 23] (fun u3 u23 wr => ShRel w ys.length u3 u23 wr) (fun _ u23 _ => ys.length - (intOf u23).toNat)
    case atStart => exact ⟨0, [.o], by omega, rfl, Parts.init, by simp, by simp, hrow, hb⟩
    case round =>
      clear hrow hb
      obtain ⟨i, L, hi, rfl, hP, hLi, hL21, hrow, hb⟩ := hrel
      have hlen := hP.len
      obtain ⟨g, cap, rfl, hg1, hg2⟩ := hrow.slice hlen
      have HR := Lib.hid hrow
      have HP := Lib.hid hP
      clear hrow hP
      by_cases hlt : i < ys.length
      · obtain ⟨a', c', hv, hBs⟩ := HB.out.below hb
        simp only [Value.slice.injEq] at hv
        obtain ⟨rfl, _, rfl⟩ := hv
        rcases hBs with hBs | ⟨bb, off, rfl, hc1, hc2, hc3⟩
        · rw [hBs] at hlt; simp at hlt
        have hx := HY.out (ys.getD i 0) (by rw [List.getD_eq_getElem?_getD, List.getElem?_eq_getElem hlt]; exact List.getElem_mem _)
        have hcx : wr.cell? ⟨bb, off + i, none⟩ = some (.int .u8 (ys.getD i 0)) := hc3 i _ (by rw [List.getD_eq_getElem?_getD, List.getElem?_eq_getElem hlt]; rfl)
        clear hc3
        generalize ys.getD i 0 = x at *
        by_cases h20 : 20 ≤ i
        · go_wp2_with fail
          go_meet
          exact ⟨L, HP.out, hL21, HR.out, hb⟩
        · obtain ⟨k, hk⟩ : ∃ k : Nat, x.tmod (L.length : Int) = (k : Int) := ⟨(x.tmod (L.length : Int)).toNat, by rw [Int.tmod_eq_emod_of_nonneg hx.1]; have := Int.emod_nonneg x (show (L.length : Int) ≠ 0 by omega); omega⟩
          have hkL : k < L.length := by
            rw [Int.tmod_eq_emod_of_nonneg hx.1] at hk
            have := Int.emod_lt_of_pos x (show (0 : Int) < (L.length : Int) by omega)
            omega
          obtain ⟨t, o, q, htk, ho, hq, hT⟩ := HR.out.get hkL rfl
          have HT := Lib.hid hT
          clear hT
          have hL0 : ¬ (L.length : Int) = 0 := by omega
          have hd : t.depth ≤ 100000 := by have := (HP.out.each t (List.mem_of_getElem? htk)).2.2; omega
          rcases HP.out.split htk with ⟨hs, hs16⟩ | ⟨hs, hs16⟩
          · have HS := Lib.hid hs
            clear hs
            go_upto_region 10 with (go_at_call 19; refine Calls.mono (split_is _ HT.out hd HS.out) ?_; rintro e wn ⟨v1, v2, rfl, hv1, hv2, hkk⟩; obtain ⟨o2, q2, rfl, ho2⟩ := hv1.shape'; obtain ⟨o3, q3, rfl, ho3⟩ := hv2.shape'; have H2 := Lib.hid hv1; have H3 := Lib.hid hv2; have hb := hb.trans (hkk.mono hb.size); have HR := Lib.hid (HR.out.below hkk); have hgE : g < wn.heap.size := (by have := hkk.size; omega); clear hv1 hv2 hkk)
            clear ho hq
            have b2 := (Bx.new wn o2 q2).alloc (.cells #[.bool o3, .pointer q3] 31)
            have b3 := Bx.new1 wn o3 q3 (.cells #[.bool o2, .pointer q2] 31)
            have HR := Lib.hid ((HR.out.below (bel0 _ (.cells #[.bool o2, .pointer q2] 31))).below (bel0 _ (.cells #[.bool o3, .pointer q3] 31)))
            have H2 := Lib.hid ((H2.out.alloc (.cells #[.bool o2, .pointer q2] 31)).alloc (.cells #[.bool o3, .pointer q3] 31))
            have H3 := Lib.hid ((H3.out.alloc (.cells #[.bool o2, .pointer q2] 31)).alloc (.cells #[.bool o3, .pointer q3] 31))
            have hb := (hb.alloc hb.size (.cells #[.bool o2, .pointer q2] 31)).alloc (by simp only [asz]; have := hb.size; omega) (.cells #[.bool o3, .pointer q3] 31)
            generalize (wn.alloc (.cells #[.bool o2, .pointer q2] 31)).alloc (.cells #[.bool o3, .pointer q3] 31) = W at *
            obtain ⟨E, hE⟩ : ∃ E, wn.heap.size = E := ⟨_, rfl⟩
            rw [hE] at b2 b3 ⊢
            obtain ⟨F, hF⟩ : ∃ F, E + 1 = F := ⟨_, rfl⟩
            rw [hF] at b3 ⊢
            obtain ⟨t', o', q', htk', ho', hq', _⟩ := HR.out.get hkL rfl
            have hf0 := HR.out.frozen rfl (k * 2)
            have hf1 := HR.out.frozen rfl (k * 2 + 1)
            have c20 := b2.c0
            have c21 := b2.c1
            obtain ⟨hset, hkp⟩ := HR.out.set rfl (k := k) H2.out
            have hbs := bset (bset hb hg1 (k * 2) (.bool o2)) hg1 (k * 2 + 1) (.pointer q2)
            have hgF : F ≠ g := by omega
            have b3s : Bx ((W.setCell ⟨g, k * 2, none⟩ (.bool o2)).setCell ⟨g, k * 2 + 1, none⟩ (.pointer q2)) F o3 q3 := (Below.heap_setCell _ _ _ _ hgF).trans ((Below.heap_setCell _ _ _ _ hgF).trans b3)
            have H3 := Lib.hid (H3.out.kp hkp)
            go_upto_region 14 with (fail)
            generalize (W.setCell ⟨g, k * 2, none⟩ (.bool o2)).setCell ⟨g, k * 2 + 1, none⟩ (.pointer q2) = W2 at *
            have d0 := b3s.c0
            have d1 := b3s.c1
            have hLs : (L.set k t.split.1).length = L.length := List.length_set
            obtain ⟨vs, hvl, hown, hvi⟩ := hset
            rw [hLs] at hown
            go_wp2_with (at_builtin; refine wpList_append_own_at _ rfl _ _ 33 rfl w.heap.size 31 i0 (.agg #[.bool false, .pointer none]) 2 16 Try.underlying33 hi0 hz0 hz1 hz2 rfl (by decide) _ _ _ rfl (hown.alloc _) ⟨W2.heap.size, 0, none⟩ 1 1 [.bool o3, .pointer q3] rfl rfl (two_new _ _ _) (fun x hx => by simp at hx; rcases hx with rfl | rfl <;> rfl) (by unfold maxLen; omega) (by omega) (by have := hbs.size; simp; omega) ?_; intro v' w1 hown' hgrow _ hat)
            refine ⟨⟨i + 1, L.set k t.split.1 ++ [t.split.2], by omega, by go_num, HP.out.step htk hs16, by simp; omega, by simp; omega, ?_, ?_⟩, by simp [intOf]; omega⟩
            · exact RowT.append (L := L.set k t.split.1) (vs := vs) hvl (by rw [hLs]; exact hown.alloc _) (fun i t p a b => (hvi i t p a b).alloc _) (H3.out.alloc _) (by rw [hLs]; exact hown') hgrow
            · exact (hbs.alloc hbs.size _).grown hgrow (by have := hbs.size; simp; omega) (fun k hk => (hown.lt k hk).1)
          · have HS := Lib.hid hs
            clear hs
            go_upto_region 10 with (go_at_call 19; refine Calls.mono (split_is _ HT.out hd HS.out) ?_; rintro e wn ⟨v1, v2, rfl, hv1, hv2, hkk⟩; obtain ⟨o2, q2, rfl, ho2⟩ := hv1.shape'; obtain ⟨o3, q3, rfl, ho3⟩ := hv2.shape'; have hb := hb.trans (hkk.mono hb.size); have HR := Lib.hid (HR.out.below hkk); have HT := Lib.hid (HT.out.below hkk); clear hv1 hv2 hkk)
            clear ho hq
            have HR := Lib.hid ((HR.out.below (bel0 _ (.cells #[.bool o2, .pointer q2] 31))).below (bel0 _ (.cells #[.bool o3, .pointer q3] 31)))
            have hb := (hb.alloc hb.size (.cells #[.bool o2, .pointer q2] 31)).alloc (by simp only [asz]; have := hb.size; omega) (.cells #[.bool o3, .pointer q3] 31)
            generalize (wn.alloc (.cells #[.bool o2, .pointer q2] 31)).alloc (.cells #[.bool o3, .pointer q3] 31) = W at *
            obtain ⟨t', o', q', htk', ho', hq', hT'⟩ := HR.out.get hkL rfl
            obtain rfl : t' = t := Option.some.inj (htk'.symm.trans htk)
            have HT := Lib.hid hT'
            clear hT'
            go_wp2_with (go_at_call 20; refine Calls.mono (depth_eq _ HT.out hs16 (by omega)) ?_; rintro e w2 ⟨rfl, hkk⟩; have hb := hb.trans (hkk.mono hb.size); have HR := Lib.hid (HR.out.below hkk); clear hkk)
            refine ⟨⟨i + 1, L, by omega, by go_num, HP.out, by omega, hL21, HR.out, hb⟩, by simp [intOf]; omega⟩
      · go_wp2_with fail
        go_meet
        exact ⟨L, HP.out, hL21, HR.out, hb⟩
  case rest =>
    clear hrow hb
    obtain ⟨L, hP, hL21, hrow, hb⟩ := hcut
    have hlen := hP.len
    obtain ⟨g, cap, rfl, hg1, hg2⟩ := hrow.slice hlen
    have HR := Lib.hid hrow
    have HP := Lib.hid hP
    clear hrow hP
    go_upto_region 17 with (go_at_call 21; refine Calls.mono (zero_any _) ?_; rintro e wn ⟨v, rfl, rfl, hkk⟩; have hb := hb.trans (hkk.mono hb.size); have HR := Lib.hid (HR.out.below hkk); have hgE : g < wn.heap.size := (by have := hkk.size; omega); clear hkk)
    have b1 := Bx.new wn false none
    have HR := Lib.hid (HR.out.below (bel0 _ (.cells #[.bool false, .pointer none] 31)))
    have hA0 : w.heap.size ≤ wn.heap.size := hb.size
    have hb := hb.alloc hb.size (.cells #[.bool false, .pointer none] 31)
    generalize wn.alloc (.cells #[.bool false, .pointer none] 31) = wz at *
    obtain ⟨A, eA⟩ : ∃ A, wn.heap.size = A := ⟨_, rfl⟩
    rw [eA] at b1 hA0 hgE ⊢
    have hgA : g ≠ A := by omega
    go_wp2_with fail
    go_loopw [68] (fun u68 wr => ShRel2 w A g cap L u68 wr) (fun u68 _ => L.length - (intOf u68).toNat)
    case atStart => exact ⟨0, false, none, by omega, rfl, b1, rfl, HR.out, hb⟩
    case round =>
      clear b1 HR hb
      obtain ⟨i, o, q, hi, rfl, b1, hS, hrow, hb⟩ := hrel
      have HS := Lib.hid hS
      have HR := Lib.hid hrow
      clear hS hrow
      have c10 := b1.c0
      have c11 := b1.c1
      have f10 := b1.f0
      have f11 := b1.f1
      by_cases hlt : i < L.length
      · obtain ⟨t, ot, qt, hti, ho, hq, hT⟩ := HR.out.get hlt rfl
        have HT := Lib.hid hT
        clear hT
        obtain ⟨hcap, hcap2⟩ := HR.out.cap rfl
        have hil : (i : Int) ≤ (cap : Int) := by omega
        have htz : t.isZ = false := by
          cases hz : t.isZ with
          | false => rfl
          | true => exact absurd (isZ_iff.1 hz) (HP.out.each t (List.mem_of_getElem? hti)).2.1
        have HTZ := Lib.hid htz
        have HSU := Lib.hid (HP.out.sum hti)
        clear htz
        go_upto_region 20 with (fail)
        have b2 := Bx.new wr ot qt
        have b1 := b1.alloc (.cells #[.bool ot, .pointer qt] 31)
        have HS := Lib.hid (HS.out.alloc (.cells #[.bool ot, .pointer qt] 31))
        have HT := Lib.hid (HT.out.alloc (.cells #[.bool ot, .pointer qt] 31))
        have HR := Lib.hid (HR.out.below (bel0 _ (.cells #[.bool ot, .pointer qt] 31)))
        have hb := hb.alloc hb.size (.cells #[.bool ot, .pointer qt] 31)
        generalize wr.alloc (.cells #[.bool ot, .pointer qt] 31) = W at *
        obtain ⟨Y, eY⟩ : ∃ Y, wr.heap.size = Y := ⟨_, rfl⟩
        rw [eY] at b2 ⊢
        clear c10 c11 f10 f11 ho hq
        go_wp2_with fail
        go_loopw [77] (fun u77 ws => ShRel3 w A Y g cap i L (pre .z (L.take i)) t o q ot qt u77 ws) (fun u77 _ => i - (intOf u77).toNat)
        case atStart => exact ⟨0, by omega, rfl, b1, HS.out, b2, HT.out, HR.out, hb⟩
        case round =>
          clear b1 HS b2 HT HR hb
          obtain ⟨j, hj, rfl, b1, hS, b2, hT, hrow, hb⟩ := hrel
          have HS := Lib.hid hS
          have HT := Lib.hid hT
          have HR := Lib.hid hrow
          clear hS hT hrow
          by_cases hjlt : j < i
          · obtain ⟨s, os, qs, hsj, ho, hq, hT2⟩ := HR.out.get (k := j) (by omega) rfl
            have HT2 := Lib.hid hT2
            have HD := Lib.hid (HP.out.apart hjlt hsj hti)
            clear hT2
            have c20 := b2.c0
            have c21 := b2.c1
            have l2 := b2.lt
            go_wp2_with (go_at_call 22; refine Calls.mono (disj_is _ (HT.out.alloc _) (HT2.out.alloc _) HD.out) ?_; rintro e wn ⟨rfl, hkk⟩; have hb := (hb.alloc hb.size _).trans (hkk.mono (hb.alloc hb.size _).size); have b1 := (b1.alloc _).below hkk; have b2 := (b2.alloc _).below hkk; have HS := Lib.hid ((HS.out.alloc _).below hkk); have HT := Lib.hid ((HT.out.alloc _).below hkk); have HR := Lib.hid ((HR.out.below (bel0 _ _)).below hkk); clear hkk)
            refine ⟨⟨j + 1, by omega, by go_num, b1, HS.out, b2, HT.out, HR.out, hb⟩, by simp [intOf]; omega⟩
          · have c10 := b1.c0
            have c11 := b1.c1
            have c20 := b2.c0
            have c21 := b2.c1
            go_upto_region 27 with (go_at_call 23; refine Calls.mono (sum_is _ HS.out HT.out HSU.out) ?_; rintro e wn ⟨v, rfl, hv, hkk⟩; obtain ⟨o3, q3, rfl, _⟩ := hv.shape'; have H3 := Lib.hid hv; have hb := hb.trans (hkk.mono hb.size); have b1 := b1.below hkk; have b2 := b2.below hkk; have HT := Lib.hid (HT.out.below hkk); have HR := Lib.hid (HR.out.below hkk); clear hv hkk)
            have b3 := Bx.new wn o3 q3
            have hZA : wn.heap.size ≠ A := b1.ne
            have b1 := b1.alloc (.cells #[.bool o3, .pointer q3] 31)
            have b2 := b2.alloc (.cells #[.bool o3, .pointer q3] 31)
            have H3 := Lib.hid (H3.out.alloc (.cells #[.bool o3, .pointer q3] 31))
            have HT := Lib.hid (HT.out.alloc (.cells #[.bool o3, .pointer q3] 31))
            have HR := Lib.hid (HR.out.below (bel0 _ (.cells #[.bool o3, .pointer q3] 31)))
            have hb := hb.alloc hb.size (.cells #[.bool o3, .pointer q3] 31)
            generalize wn.alloc (.cells #[.bool o3, .pointer q3] 31) = W3 at *
            obtain ⟨Z, eZ⟩ : ∃ Z, wn.heap.size = Z := ⟨_, rfl⟩
            rw [eZ] at b3 hZA ⊢
            clear c10 c11 c20 c21
            have c20 := b2.c0
            have c21 := b2.c1
            go_upto_region 29 with (go_at_call 24; refine Calls.mono (isZero_is _ HT.out HTZ.out) ?_; rintro e w5 ⟨rfl, hkk⟩; have hb := hb.trans (hkk.mono hb.size); have b1 := b1.below hkk; have b3 := b3.below hkk; have H3 := Lib.hid (H3.out.below hkk); have HR := Lib.hid (HR.out.below hkk); clear hkk)
            have c10 := b1.c0
            have c11 := b1.c1
            have f10 := b1.f0
            have f11 := b1.f1
            have c30 := b3.c0
            have c31 := b3.c1
            go_wp2_with fail
            have kk := Kp.put b1 o3 q3
            refine ⟨⟨i + 1, o3, q3, by omega, by go_num, b1.put o3 q3, H3.out.kp kk, HR.out.far b1 hgA o3 q3, bput hb hA0 o3 q3⟩, by simp [intOf]; omega⟩
      · obtain rfl : i = L.length := by omega
        rw [List.take_length, HP.out.whole] at HS
        go_wp2_with (go_at_call 25; refine Calls.mono (isOne_is _ HS.out (rfl : _ = true)) ?_; rintro e wn ⟨rfl, hkk⟩; have hb := hb.trans (hkk.mono hb.size); clear hkk)
        go_ret
        exact ⟨by trivial, hb⟩
end Go.Proofs.Ytigkjmfkpmehlaa
