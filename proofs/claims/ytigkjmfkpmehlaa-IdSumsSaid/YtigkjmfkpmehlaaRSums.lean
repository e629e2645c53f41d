/- kinfolkref01: Disjoint, Covers, Sum. (Printed by wip/ids/rsums.py.) -/
import Derived.Test.YtigkjmfkpmehlaaSumsLaw
import Derived.Deep.CutBlock
namespace Go.Proofs.Ytigkjmfkpmehlaa
open Go.RowKit

theorem deep_is {s t : T} {u v : Value} {d : Nat} (w : World) (hs : RV w s u) (ht : RV w t v) (ds : s.depth ≤ 1000) (dt : t.depth ≤ 1000) (hd : max s.depth t.depth = d) : Calls Try.prog 65 #[u, v] w fun e w' => e = .returned (.int .i64 (d : Int)) ∧ Below w.heap.size w w' := by
  subst hd
  exact deepest_any w hs ht ds dt

set_option maxRecDepth 100000 in
set_option maxHeartbeats 3200000 in
theorem rdisj_any {s t : T} {u v : Value} (w : World) (ns : s.norm = true) (nt : t.norm = true) (ds : s.depth ≤ 20) (dt : t.depth ≤ 20) (hs : RV w s u) (ht : RV w t v) : Calls Try.prog 38 #[u, v] w fun e w' => e = .returned (.bool (s.disj t)) ∧ Below w.heap.size w w' := by
  have HS := Lib.hid hs
  have HT := Lib.hid ht
  obtain ⟨b1, _, _, rfl, _⟩ := hs.shape
  obtain ⟨b2, _, _, rfl, _⟩ := ht.shape
  clear hs ht
  obtain ⟨d, hd⟩ : ∃ d, max s.depth t.depth = d := ⟨_, rfl⟩
  have ds1 : s.depth ≤ d := by omega
  have dt1 : t.depth ≤ d := by omega
  have hp := pow_le (d := d) (by omega)
  have hp1 : 1 ≤ 2 ^ d := Nat.one_le_two_pow
  have hlaw := has_disj d ns nt ds1 dt1
  have HDE := Lib.hid hd
  have hd20 : d ≤ 20 := by omega
  clear hd
  have hlX := hasL_len d s
  have hlY := hasL_len d t
  have hb := Below.refl w.heap.size w
  go_enter Try.func38, Try.ntmps38
  go_upto_region 3 with (first
    | (go_at_call 65; refine Calls.mono (deep_is _ (HS.out.below hb) (HT.out.below hb) (by omega) (by omega) HDE.out) ?_; rintro e wn ⟨rfl, hkk⟩; have hb := hb.trans (hkk.mono hb.size); clear hkk)
    | (go_at_call 66; first
        | ((with_reducible refine Calls.mono (has_any d _ rfl hd20 (HS.out.below hb)) ?_); rintro e wn ⟨s1, rfl, hs1, hkk⟩; have HX := Lib.hid (hs1.mono hb.size); have hb := hb.trans (hkk.mono hb.size); clear hs1 hkk)
        | ((with_reducible refine Calls.mono (has_any d _ rfl hd20 (HT.out.below hb)) ?_); rintro e wn ⟨s2, rfl, hs2, hkk⟩; obtain ⟨g1, cap1, rfl, hg1, hg1', hn1, _⟩ := own_at HX.out hp1; have HX := Lib.hid (HX.out.kept (row := none) ⟨hkk.os, hkk.tape, hkk.output, hkk.size, fun k hk _ => hkk.block k hk⟩ (ob_ne _)); obtain ⟨g2, cap2, rfl, hg2, hg2', hn2, _⟩ := own_at hs2 hp1; have HY := Lib.hid hs2; have hb := hb.trans (hkk.mono hb.size); clear hs2 hkk)))
  generalize hasL d s = X at *
  generalize hasL d t = Y at *
  obtain ⟨W, hW⟩ : ∃ W, wn = W := ⟨_, rfl⟩
  rw [hW] at HX HY hb hg2' ⊢
  generalize 2 ^ d = N at *
  have cX : ∀ j x, X[j]? = some x → W.cell? ⟨g1, j, none⟩ = some (.bool x) := fun j x hj => by
    have hlt := (List.getElem?_eq_some_iff.1 hj).1
    rw [HX.out.cellAt j (by omega), List.getElem?_map, hj]
    rfl
  have cY : ∀ j x, Y[j]? = some x → W.cell? ⟨g2, j, none⟩ = some (.bool x) := fun j x hj => by
    have hlt := (List.getElem?_eq_some_iff.1 hj).1
    rw [HY.out.cellAt j (by omega), List.getElem?_map, hj]
    rfl
  have CX := Lib.hid cX
  have CY := Lib.hid cY
  have HLAW := Lib.hid hlaw
  clear cX cY hlaw hW
  have hn1' : (N : Int) ≤ (cap1 : Int) := by omega
  have hn2' : (N : Int) ≤ (cap2 : Int) := by omega
  go_wp2_with fail
  go_loopw [20] (fun u20 wr => wr = W ∧ ∃ j : Nat, j ≤ N ∧ u20 = .int .i64 (j : Int) ∧ ∀ i, i < j → ¬ (X[i]? = some true ∧ Y[i]? = some true)) (fun u20 _ => N - (intOf u20).toNat)
  case atStart => exact ⟨rfl, 0, by omega, rfl, fun i hi => by omega⟩
  case round =>
    obtain ⟨rfl, j, hj, rfl, hall⟩ := hrel
    have HALL := Lib.hid hall
    clear hall
    by_cases hjn : j < N
    · obtain ⟨x, hx⟩ : ∃ x, X[j]? = some x := ⟨_, List.getElem?_eq_getElem (by omega)⟩
      obtain ⟨y, hy⟩ : ∃ y, Y[j]? = some y := ⟨_, List.getElem?_eq_getElem (by omega)⟩
      have cx := CX.out j x hx
      have cy := CY.out j y hy
      have HX1 := Lib.hid hx
      have HY1 := Lib.hid hy
      clear hx hy
      cases x with
      | true =>
        cases y with
        | true =>
          have hres : s.disj t = false := by
            cases hh : s.disj t with
            | false => rfl
            | true =>
              have := HLAW.out.2 hh j
              rw [HX1.out, HY1.out] at this
              simp at this
          have HRES := Lib.hid hres
          clear hres
          go_wp2_with fail
          go_ret
          exact ⟨by rw [HRES.out]; rfl, hb⟩
        | false =>
          have hnext : ∀ i, i < j + 1 → ¬ (X[i]? = some true ∧ Y[i]? = some true) := fun i hi => by
            by_cases hij : i = j
            · subst hij
              rw [HX1.out, HY1.out]
              simp
            · exact HALL.out i (by omega)
          have HNX := Lib.hid hnext
          clear hnext
          go_wp2_with fail
          refine ⟨⟨by trivial, j + 1, by omega, by go_num, HNX.out⟩, by simp [intOf]; omega⟩
      | false =>
        cases y with
        | true =>
          have hnext : ∀ i, i < j + 1 → ¬ (X[i]? = some true ∧ Y[i]? = some true) := fun i hi => by
            by_cases hij : i = j
            · subst hij
              rw [HX1.out, HY1.out]
              simp
            · exact HALL.out i (by omega)
          have HNX := Lib.hid hnext
          clear hnext
          go_wp2_with fail
          refine ⟨⟨by trivial, j + 1, by omega, by go_num, HNX.out⟩, by simp [intOf]; omega⟩
        | false =>
          have hnext : ∀ i, i < j + 1 → ¬ (X[i]? = some true ∧ Y[i]? = some true) := fun i hi => by
            by_cases hij : i = j
            · subst hij
              rw [HX1.out, HY1.out]
              simp
            · exact HALL.out i (by omega)
          have HNX := Lib.hid hnext
          clear hnext
          go_wp2_with fail
          refine ⟨⟨by trivial, j + 1, by omega, by go_num, HNX.out⟩, by simp [intOf]; omega⟩
    · have hres : s.disj t = true := HLAW.out.1 (fun i => by
        by_cases hi : i < N
        · exact HALL.out i (by omega)
        · rw [List.getElem?_eq_none (by omega)]
          simp)
      have HRES := Lib.hid hres
      clear hres
      go_wp2_with fail
      go_ret
      exact ⟨by rw [HRES.out]; rfl, hb⟩

set_option maxRecDepth 100000 in
set_option maxHeartbeats 3200000 in
theorem rcov_any {s t : T} {u v : Value} (w : World) (ns : s.norm = true) (nt : t.norm = true) (ds : s.depth ≤ 20) (dt : t.depth ≤ 20) (hs : RV w s u) (ht : RV w t v) : Calls Try.prog 39 #[u, v] w fun e w' => e = .returned (.bool (s.cov t)) ∧ Below w.heap.size w w' := by
  have HS := Lib.hid hs
  have HT := Lib.hid ht
  obtain ⟨b1, _, _, rfl, _⟩ := hs.shape
  obtain ⟨b2, _, _, rfl, _⟩ := ht.shape
  clear hs ht
  obtain ⟨d, hd⟩ : ∃ d, max s.depth t.depth = d := ⟨_, rfl⟩
  have ds1 : s.depth ≤ d := by omega
  have dt1 : t.depth ≤ d := by omega
  have hp := pow_le (d := d) (by omega)
  have hp1 : 1 ≤ 2 ^ d := Nat.one_le_two_pow
  have hlaw := has_cov d ns nt ds1 dt1
  have HDE := Lib.hid hd
  have hd20 : d ≤ 20 := by omega
  clear hd
  have hlX := hasL_len d s
  have hlY := hasL_len d t
  have hb := Below.refl w.heap.size w
  go_enter Try.func39, Try.ntmps39
  go_upto_region 3 with (first
    | (go_at_call 65; refine Calls.mono (deep_is _ (HS.out.below hb) (HT.out.below hb) (by omega) (by omega) HDE.out) ?_; rintro e wn ⟨rfl, hkk⟩; have hb := hb.trans (hkk.mono hb.size); clear hkk)
    | (go_at_call 66; first
        | ((with_reducible refine Calls.mono (has_any d _ rfl hd20 (HS.out.below hb)) ?_); rintro e wn ⟨s1, rfl, hs1, hkk⟩; have HX := Lib.hid (hs1.mono hb.size); have hb := hb.trans (hkk.mono hb.size); clear hs1 hkk)
        | ((with_reducible refine Calls.mono (has_any d _ rfl hd20 (HT.out.below hb)) ?_); rintro e wn ⟨s2, rfl, hs2, hkk⟩; obtain ⟨g1, cap1, rfl, hg1, hg1', hn1, _⟩ := own_at HX.out hp1; have HX := Lib.hid (HX.out.kept (row := none) ⟨hkk.os, hkk.tape, hkk.output, hkk.size, fun k hk _ => hkk.block k hk⟩ (ob_ne _)); obtain ⟨g2, cap2, rfl, hg2, hg2', hn2, _⟩ := own_at hs2 hp1; have HY := Lib.hid hs2; have hb := hb.trans (hkk.mono hb.size); clear hs2 hkk)))
  generalize hasL d s = X at *
  generalize hasL d t = Y at *
  obtain ⟨W, hW⟩ : ∃ W, wn = W := ⟨_, rfl⟩
  rw [hW] at HX HY hb hg2' ⊢
  generalize 2 ^ d = N at *
  have cX : ∀ j x, X[j]? = some x → W.cell? ⟨g1, j, none⟩ = some (.bool x) := fun j x hj => by
    have hlt := (List.getElem?_eq_some_iff.1 hj).1
    rw [HX.out.cellAt j (by omega), List.getElem?_map, hj]
    rfl
  have cY : ∀ j x, Y[j]? = some x → W.cell? ⟨g2, j, none⟩ = some (.bool x) := fun j x hj => by
    have hlt := (List.getElem?_eq_some_iff.1 hj).1
    rw [HY.out.cellAt j (by omega), List.getElem?_map, hj]
    rfl
  have CX := Lib.hid cX
  have CY := Lib.hid cY
  have HLAW := Lib.hid hlaw
  clear cX cY hlaw hW
  have hn1' : (N : Int) ≤ (cap1 : Int) := by omega
  have hn2' : (N : Int) ≤ (cap2 : Int) := by omega
  go_wp2_with fail
  go_loopw [20] (fun u20 wr => wr = W ∧ ∃ j : Nat, j ≤ N ∧ u20 = .int .i64 (j : Int) ∧ ∀ i, i < j → (Y[i]? = some true → X[i]? = some true)) (fun u20 _ => N - (intOf u20).toNat)
  case atStart => exact ⟨rfl, 0, by omega, rfl, fun i hi => by omega⟩
  case round =>
    obtain ⟨rfl, j, hj, rfl, hall⟩ := hrel
    have HALL := Lib.hid hall
    clear hall
    by_cases hjn : j < N
    · obtain ⟨x, hx⟩ : ∃ x, X[j]? = some x := ⟨_, List.getElem?_eq_getElem (by omega)⟩
      obtain ⟨y, hy⟩ : ∃ y, Y[j]? = some y := ⟨_, List.getElem?_eq_getElem (by omega)⟩
      have cx := CX.out j x hx
      have cy := CY.out j y hy
      have HX1 := Lib.hid hx
      have HY1 := Lib.hid hy
      clear hx hy
      cases x with
      | true =>
        cases y with
        | true =>
          have hnext : ∀ i, i < j + 1 → (Y[i]? = some true → X[i]? = some true) := fun i hi => by
            by_cases hij : i = j
            · subst hij
              rw [HX1.out, HY1.out]
              simp
            · exact HALL.out i (by omega)
          have HNX := Lib.hid hnext
          clear hnext
          go_wp2_with fail
          refine ⟨⟨by trivial, j + 1, by omega, by go_num, HNX.out⟩, by simp [intOf]; omega⟩
        | false =>
          have hnext : ∀ i, i < j + 1 → (Y[i]? = some true → X[i]? = some true) := fun i hi => by
            by_cases hij : i = j
            · subst hij
              rw [HX1.out, HY1.out]
              simp
            · exact HALL.out i (by omega)
          have HNX := Lib.hid hnext
          clear hnext
          go_wp2_with fail
          refine ⟨⟨by trivial, j + 1, by omega, by go_num, HNX.out⟩, by simp [intOf]; omega⟩
      | false =>
        cases y with
        | true =>
          have hres : s.cov t = false := by
            cases hh : s.cov t with
            | false => rfl
            | true =>
              have := HLAW.out.2 hh j
              rw [HX1.out, HY1.out] at this
              simp at this
          have HRES := Lib.hid hres
          clear hres
          go_wp2_with fail
          go_ret
          exact ⟨by rw [HRES.out]; rfl, hb⟩
        | false =>
          have hnext : ∀ i, i < j + 1 → (Y[i]? = some true → X[i]? = some true) := fun i hi => by
            by_cases hij : i = j
            · subst hij
              rw [HX1.out, HY1.out]
              simp
            · exact HALL.out i (by omega)
          have HNX := Lib.hid hnext
          clear hnext
          go_wp2_with fail
          refine ⟨⟨by trivial, j + 1, by omega, by go_num, HNX.out⟩, by simp [intOf]; omega⟩
    · have hres : s.cov t = true := HLAW.out.1 (fun i hyi => by
        by_cases hi : i < N
        · exact HALL.out i (by omega) hyi
        · rw [List.getElem?_eq_none (by omega)] at hyi
          simp at hyi)
      have HRES := Lib.hid hres
      clear hres
      go_wp2_with fail
      go_ret
      exact ⟨by rw [HRES.out]; rfl, hb⟩

/-- The row of the first, some places turned. -/
def OrRel (w : World) (g1 cap1 g2 cap2 N : Nat) (X Y : List Bool) (u20 : Value) (wr : World) : Prop :=
  ∃ (j : Nat) (Zs : List Bool), j ≤ N ∧ u20 = .int .i64 (j : Int) ∧ Zs.length = N ∧ (∀ i, i < j → Zs[i]? = (orL X Y)[i]?) ∧ (∀ i, j ≤ i → Zs[i]? = X[i]?) ∧ wr.ownsRow w.heap.size 4 1 (.slice (some ⟨g1, 0, none⟩) N cap1) N (Zs.map Value.bool) ∧ wr.ownsRow (g1 + 1) 4 1 (.slice (some ⟨g2, 0, none⟩) N cap2) N (Y.map Value.bool) ∧ Below w.heap.size w wr

set_option maxRecDepth 100000 in
set_option maxHeartbeats 3200000 in
theorem rsum_any {s t : T} {u v : Value} (w : World) (ns : s.norm = true) (nt : t.norm = true) (ds : s.depth ≤ 20) (dt : t.depth ≤ 20) (hdj : s.disj t = true) (hs : RV w s u) (ht : RV w t v) : Calls Try.prog 41 #[u, v] w fun e w' => ∃ p, e = .returned p ∧ RV w' (s.sum t) p ∧ Below w.heap.size w w' := by
  have HS := Lib.hid hs
  have HT := Lib.hid ht
  obtain ⟨b1, _, _, rfl, _⟩ := hs.shape
  obtain ⟨b2, _, _, rfl, _⟩ := ht.shape
  clear hs ht
  obtain ⟨d, hd⟩ : ∃ d, max s.depth t.depth = d := ⟨_, rfl⟩
  have ds1 : s.depth ≤ d := by omega
  have dt1 : t.depth ≤ d := by omega
  have hp := pow_le (d := d) (by omega)
  have hp1 : 1 ≤ 2 ^ d := Nat.one_le_two_pow
  have hlaw := of_sum d ns nt ds1 dt1 hdj
  have HDE := Lib.hid hd
  have hd20 : d ≤ 20 := by omega
  clear hd
  have hlX := hasL_len d s
  have hlY := hasL_len d t
  have hb := Below.refl w.heap.size w
  go_enter Try.func41, Try.ntmps41
  go_upto_region 3 with (first
    | (go_at_call 65; refine Calls.mono (deep_is _ (HS.out.below hb) (HT.out.below hb) (by omega) (by omega) HDE.out) ?_; rintro e wn ⟨rfl, hkk⟩; have hb := hb.trans (hkk.mono hb.size); clear hkk)
    | (go_at_call 66; first
        | ((with_reducible refine Calls.mono (has_any d _ rfl hd20 (HS.out.below hb)) ?_); rintro e wn ⟨s1, rfl, hs1, hkk⟩; have HX := Lib.hid (hs1.mono hb.size); have hb := hb.trans (hkk.mono hb.size); clear hs1 hkk)
        | ((with_reducible refine Calls.mono (has_any d _ rfl hd20 (HT.out.below hb)) ?_); rintro e wn ⟨s2, rfl, hs2, hkk⟩; obtain ⟨g1, cap1, rfl, hg1, hg1', hn1, _⟩ := own_at HX.out hp1; have HX := Lib.hid (HX.out.kept (row := none) ⟨hkk.os, hkk.tape, hkk.output, hkk.size, fun k hk _ => hkk.block k hk⟩ (ob_ne _)); obtain ⟨g2, cap2, rfl, hg2, hg2', hn2, _⟩ := own_at hs2 hp1; have HY := Lib.hid (hs2.mono (base' := g1 + 1) (by omega)); have hb := hb.trans (hkk.mono hb.size); clear hs2 hkk)))
  generalize hasL d s = X at *
  generalize hasL d t = Y at *
  have HLAW := Lib.hid hlaw
  clear hlaw
  have hor : (orL X Y).length = 2 ^ d := by rw [orL_len (by omega), hlX]
  obtain ⟨N, hN⟩ : ∃ N, 2 ^ d = N := ⟨_, rfl⟩
  rw [hN] at hlX hlY hor hp hp1 HX HY hn1 hn2 ⊢
  have HN := Lib.hid hN
  clear hN
  have hn1' : (N : Int) ≤ (cap1 : Int) := by omega
  have hn2' : (N : Int) ≤ (cap2 : Int) := by omega
  go_upto_block 0 with (fail)
  go_cut [] (fun wx => OrRel w g1 cap1 g2 cap2 N X Y (.int .i64 (N : Int)) wx)
  case first =>
    go_wp2_with fail
    go_loopw [20] (fun u20 wr => OrRel w g1 cap1 g2 cap2 N X Y u20 wr) (fun u20 _ => N - (intOf u20).toNat)
    case atStart => exact ⟨0, X, by omega, rfl, hlX, fun i hi => by omega, fun i _ => rfl, HX.out, HY.out, hb⟩
    case round =>
      clear HX HY hb
      obtain ⟨j, Zs, hj, rfl, hZ, h1, h2, hZr, hYr, hb⟩ := hrel
      by_cases hjn : j < N
      · obtain ⟨x, hx⟩ : ∃ x, X[j]? = some x := ⟨_, List.getElem?_eq_getElem (by omega)⟩
        obtain ⟨y, hy⟩ : ∃ y, Y[j]? = some y := ⟨_, List.getElem?_eq_getElem (by omega)⟩
        have cx : wr.cell? ⟨g1, j, none⟩ = some (.bool x) := by rw [hZr.cellAt j (by omega), List.getElem?_map, h2 j (Nat.le_refl _), hx]; rfl
        have cy : wr.cell? ⟨g2, j, none⟩ = some (.bool y) := by rw [hYr.cellAt j (by omega), List.getElem?_map, hy]; rfl
        have fx := hZr.frozenAt j
        have hset := (hZr.stored j (.bool (x || y))).1
        rw [← List.map_set] at hset
        have hbs := bset hb hg1 j (.bool (x || y))
        have hyk : (wr.setCell ⟨g1, j, none⟩ (.bool (x || y))).ownsRow (g1 + 1) 4 1 (.slice (some ⟨g2, 0, none⟩) N cap2) N (Y.map Value.bool) := hYr.kept (row := some g1) (hZr.stored j (.bool (x || y))).2 (.inr (by simp [Value.ownBlock]; omega))
        have hn1 : ∀ i, i < j + 1 → (Zs.set j (x || y))[i]? = (orL X Y)[i]? := fun i hi => by
          rw [List.getElem?_set]
          by_cases hij : j = i
          · subst hij
            rw [if_pos rfl, if_pos (by omega)]
            simp [orL, List.getElem?_zipWith, hx, hy]
          · rw [if_neg hij]
            exact h1 i (by omega)
        have hn2 : ∀ i, j + 1 ≤ i → (Zs.set j (x || y))[i]? = X[i]? := fun i hi => by
          rw [List.getElem?_set, if_neg (by omega)]
          exact h2 i (by omega)
        have H1 := Lib.hid hn1
        have H2 := Lib.hid hn2
        have HZ := Lib.hid hset
        have HYK := Lib.hid hyk
        have HBS := Lib.hid hbs
        clear h1 h2 hn1 hn2 hset hyk hbs hx hy
        cases x with
        | true =>
          go_wp2_with fail
          refine ⟨⟨j + 1, _, by omega, by go_num, by simp [hZ], H1.out, H2.out, HZ.out, HYK.out, HBS.out⟩, by simp [intOf]; omega⟩
        | false =>
          go_wp2_with fail
          refine ⟨⟨j + 1, _, by omega, by go_num, by simp [hZ], H1.out, H2.out, HZ.out, HYK.out, HBS.out⟩, by simp [intOf]; omega⟩
      · obtain rfl : j = N := by omega
        go_wp2_with fail
        go_meet
        exact ⟨_, Zs, Nat.le_refl _, rfl, hZ, h1, h2, hZr, hYr, hb⟩
  case rest =>
    clear HX HY hb
    obtain ⟨j, Zs, hj, hjj, hZ, h1, h2, hZr, _, hb⟩ := hcut
    obtain rfl : j = N := by
      simp only [Value.int.injEq, true_and] at hjj
      omega
    obtain rfl : Zs = orL X Y := List.ext_getElem? (fun i => by
      by_cases hi : i < j
      · exact h1 i hi
      · rw [List.getElem?_eq_none (by omega), List.getElem?_eq_none (by omega)])
    have HB := Lib.hid (BL.of_own hZr (by omega) (by omega))
    clear h1 h2 hZr
    go_wp2_with (go_at_call 67; refine Calls.mono (of_any d _ (hZ.trans HN.out.symm) hd20 HB.out) ?_; rintro e wn ⟨p, rfl, hp, hkk⟩; have HP := Lib.hid hp; have hb := hb.trans (hkk.mono hb.size); clear hp hkk)
    go_ret
    exact ⟨_, rfl, by rw [← HLAW.out]; exact HP.out, hb⟩
end Go.Proofs.Ytigkjmfkpmehlaa
