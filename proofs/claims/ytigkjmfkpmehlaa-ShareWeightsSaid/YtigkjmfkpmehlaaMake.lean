/- kinfolkref01.Make. -/
import Derived.Test.YtigkjmfkpmehlaaRef
import Derived.Test.YtigkjmfkpmehlaaSem
namespace Go.Proofs.Ytigkjmfkpmehlaa
open Go.RowKit

/-- A slice of bytes that is read only. -/
def BS (w : World) (v : Value) (ys : List Int) : Prop :=
  ∃ a c, v = .slice a ys.length c ∧ (ys = [] ∨ ∃ b off, a = some ⟨b, off, none⟩ ∧ ys.length ≤ c ∧ b < w.heap.size ∧ ∀ i u, ys[i]? = some u → w.cell? ⟨b, off + i, none⟩ = some (.int .u8 u))
theorem BS.below {w w' : World} {v : Value} {ys : List Int} (h : BS w v ys) (hb : Below w.heap.size w w') : BS w' v ys := by
  obtain ⟨a, c, rfl, h⟩ := h
  refine ⟨a, c, rfl, ?_⟩
  rcases h with h | ⟨b, off, rfl, h1, h2, h3⟩
  · exact .inl h
  · exact .inr ⟨b, off, rfl, h1, by have := hb.size; omega, fun i u hi => (hb.cell (p := ⟨b, off + i, none⟩) h2).trans (h3 i u hi)⟩
def leafOf (b : Int) : T := if b % 2 = 0 then .z else .o
/-- What Make comes to. -/
def mk : Nat → List Int → T × List Int
  | _, [] => (.z, [])
  | 0, b :: t => (leafOf b, t)
  | m + 1, b :: t => if b % 4 < 2 then (leafOf b, t) else (T.pair (mk m t).1 (mk m (mk m t).2).1, (mk m (mk m t).2).2)
theorem leaf_norm (b : Int) : (leafOf b).norm = true ∧ (leafOf b).depth = 0 := by
  unfold leafOf
  split <;> exact ⟨rfl, rfl⟩
theorem mk_norm : ∀ (m : Nat) (ys : List Int), (mk m ys).1.norm = true ∧ (mk m ys).1.depth ≤ m
  | 0, [] => by simp [mk, T.norm, T.depth]
  | _ + 1, [] => by simp [mk, T.norm, T.depth]
  | 0, b :: t => by simp only [mk]; exact ⟨(leaf_norm b).1, by rw [(leaf_norm b).2]; omega⟩
  | m + 1, b :: t => by
    simp only [mk]
    split
    · exact ⟨(leaf_norm b).1, by rw [(leaf_norm b).2]; omega⟩
    · have h1 := mk_norm m t
      have h2 := mk_norm m (mk m t).2
      have h3 := T.pair_depth (mk m t).1 (mk m (mk m t).2).1
      exact ⟨pair_norm h1.1 h2.1, by simp only; omega⟩
theorem mk_sub : ∀ (m : Nat) (ys : List Int), ∀ x ∈ (mk m ys).2, x ∈ ys
  | 0, [] => by simp [mk]
  | _ + 1, [] => by simp [mk]
  | 0, b :: t => by simp [mk]; intro x hx; exact .inr hx
  | m + 1, b :: t => by
    simp only [mk]
    split
    · intro x hx
      exact List.mem_cons_of_mem _ hx
    · intro x hx
      exact List.mem_cons_of_mem _ (mk_sub m t x (mk_sub m _ x hx))
theorem BS.shape {w : World} {v : Value} {ys : List Int} (h : BS w v ys) : ∃ a c, v = .slice a ys.length c := by
  obtain ⟨a, c, rfl, _⟩ := h
  exact ⟨a, c, rfl⟩
/-- The first byte, and what is behind it. -/
theorem BS.cons {w : World} {v : Value} {x : Int} {t : List Int} (h : BS w v (x :: t)) : ∃ b off c, v = .slice (some ⟨b, off, none⟩) (t.length + 1) c ∧ t.length + 1 ≤ c ∧ w.cell? ⟨b, off, none⟩ = some (.int .u8 x) ∧
    ((c = 1 ∧ t = []) ∨ (c ≠ 1 ∧ BS w (.slice (some ⟨b, off + 1, none⟩) t.length (c - 1)) t)) := by
  obtain ⟨a, c, rfl, h⟩ := h
  rcases h with h | ⟨b, off, rfl, h1, h2, h3⟩
  · cases h
  · simp only [List.length_cons] at h1 ⊢
    refine ⟨b, off, c, rfl, h1, h3 0 x rfl, ?_⟩
    by_cases hc : c = 1
    · refine .inl ⟨hc, ?_⟩
      apply List.eq_nil_of_length_eq_zero
      omega
    refine .inr ⟨hc, _, _, rfl, .inr ⟨b, off + 1, rfl, by omega, h2, fun i u hi => ?_⟩⟩
    have := h3 (i + 1) u hi
    rwa [show off + (i + 1) = off + 1 + i by omega] at this
theorem leaf_kind (b : Int) (w : World) : RV (w.alloc (.cells #[.int .i64 (b % 2), .pointer none, .pointer none] 94)) (leafOf b) (.pointer (some ⟨w.heap.size, 0, none⟩)) := by
  have hn := RN.new w (b % 2) none none
  have h2 : b % 2 = 0 ∨ b % 2 = 1 := by omega
  unfold leafOf
  rcases h2 with h | h
  · rw [if_pos h]
    rw [h] at hn ⊢
    exact ⟨_, _, _, rfl, hn⟩
  · rw [if_neg (by omega)]
    rw [h] at hn ⊢
    exact ⟨_, _, _, rfl, hn⟩

set_option maxRecDepth 100000 in
set_option maxHeartbeats 1600000 in
theorem make_any : ∀ (m : Nat) (ys : List Int) (k : Int) (v : Value) (w : World), k = (m : Int) → m ≤ 1000 → BS w v ys → (∀ x ∈ ys, 0 ≤ x ∧ x ≤ 255) → Calls Try.prog 61 #[v, .int .i64 k] w fun e w' => ∃ p s, e = .returned (.tuple #[p, s]) ∧ RV w' (mk m ys).1 p ∧ BS w' s (mk m ys).2 ∧ Below w.heap.size w w'
  | m, [], k, v, w, _, _, h, _ => by
    obtain ⟨a, c, rfl⟩ := h.shape
    have HE := Lib.hid (show mk m [] = (.z, []) by cases m <;> rfl)
    rw [HE.out]
    simp only [List.length_nil]
    clear h
    go_enter Try.func61, Try.ntmps61
    go_wp2_with (go_at_call 36; refine Calls.mono (rzero_any _) ?_; rintro e wn ⟨v, rfl, hv, hk⟩; have HV := Lib.hid hv; clear hv)
    exact bodyPost_ret (v := .tuple #[v, .slice none 0 0]) (by simp [results, go_sem, *]) rfl ⟨_, _, rfl, HV.out, ⟨none, 0, rfl, .inl rfl⟩, hk⟩
  | 0, b :: t, k, v, w, hk, hm, h, hy => by
    obtain ⟨g, off, c, rfl, hc, hx, hB⟩ := h.cons
    obtain ⟨hb0, hb1⟩ := hy b (by simp)
    have hk0 : k = 0 := by simpa using hk
    clear hk
    subst hk0
    clear h
    rcases hB with ⟨rfl, rfl⟩ | ⟨hc1, hB⟩
    · have hB : BS w (.slice (some ⟨g, off, none⟩) 0 0) [] := ⟨_, _, rfl, .inl rfl⟩
      have HB := Lib.hid hB
      have HY := Lib.hid hy
      clear hB hy
      simp only [mk]
      go_enter Try.func61, Try.ntmps61
      go_wp2_with fail
      exact bodyPost_ret (v := .tuple #[.pointer (some ⟨w.heap.size, 0, none⟩), .slice (some ⟨g, off, none⟩) 0 0]) (by simp [results, go_sem, *]) rfl ⟨_, _, rfl, leaf_kind b w, HB.out.below (bel0 w _), bel0 w _⟩
    · have HB := Lib.hid hB
      have HY := Lib.hid hy
      clear hB hy
      simp only [mk]
      go_enter Try.func61, Try.ntmps61
      go_wp2_with fail
      exact bodyPost_ret (v := .tuple #[.pointer (some ⟨w.heap.size, 0, none⟩), .slice (some ⟨g, off + 1, none⟩) t.length (c - 1)]) (by simp [results, go_sem, *]) rfl ⟨_, _, rfl, leaf_kind b w, HB.out.below (bel0 w _), bel0 w _⟩
  | m + 1, b :: t, k, v, w, hk, hm, h, hy => by
    obtain ⟨g, off, c, rfl, hc, hx, hB⟩ := h.cons
    obtain ⟨hb0, hb1⟩ := hy b (by simp)
    have hk0 : ¬ k = 0 := by omega
    have hk1 : wrap64 (k - 1) = (m : Int) := by rw [IntWalk.wrap64_in _ (by omega)]; omega
    clear hk
    clear h
    rcases hB with ⟨rfl, rfl⟩ | ⟨hc1, hB⟩
    · have hB : BS w (.slice (some ⟨g, off, none⟩) 0 0) [] := ⟨_, _, rfl, .inl rfl⟩
      have HB := Lib.hid hB
      have HY := Lib.hid hy
      clear hB hy
      by_cases h4 : b % 4 < 2
      · rw [show mk (m + 1) (b :: []) = (leafOf b, []) by simp only [mk]; rw [if_pos h4]]
        go_enter Try.func61, Try.ntmps61
        go_wp2_with fail
        exact bodyPost_ret (v := .tuple #[.pointer (some ⟨w.heap.size, 0, none⟩), .slice (some ⟨g, off, none⟩) 0 0]) (by simp [results, go_sem, *]) rfl ⟨_, _, rfl, leaf_kind b w, HB.out.below (bel0 w _), bel0 w _⟩
      · rw [show mk (m + 1) (b :: []) = (T.pair (mk m []).1 (mk m (mk m []).2).1, (mk m (mk m []).2).2) by simp only [mk]; rw [if_neg h4]]
        have i1 := fun (wx : World) (hw : BS wx (.slice (some ⟨g, off, none⟩) 0 0) []) => make_any m [] (m : Int) (.slice (some ⟨g, off, none⟩) 0 0) wx rfl (by omega) hw (fun x hx => by cases hx)
        have i2 := fun (wx : World) (vx : Value) (hw : BS wx vx (mk m []).2) => make_any m (mk m []).2 (m : Int) vx wx rfl (by omega) hw (fun x hx => HY.out x (List.mem_cons_of_mem _ (mk_sub m [] x hx)))
        have I1 := Lib.hid i1
        have I2 := Lib.hid i2
        clear i1 i2
        have hb := Below.refl w.heap.size w
        go_enter Try.func61, Try.ntmps61
        go_wp2_with (first
          | (go_at_call 61; first
              | (refine Calls.mono (I2.out _ _ HS.out) ?_; rintro e wn ⟨p2, s2, rfl, hp2, hs2, hkk⟩; have hb := hb.trans (hkk.mono hb.size); have HP := Lib.hid (HP.out.below hkk); have HP2 := Lib.hid hp2; have HS2 := Lib.hid hs2; clear hp2 hs2 hkk)
              | (refine Calls.mono (I1.out _ HB.out) ?_; rintro e wn ⟨p1, s1, rfl, hp1, hs1, hkk⟩; have hb := hb.trans (hkk.mono hb.size); have HP := Lib.hid hp1; have HS := Lib.hid hs1; clear hp1 hs1 hkk))
          | (go_at_call 63; refine Calls.mono (rpair_any _ HP.out HP2.out) ?_; rintro e wn ⟨p3, rfl, hp3, hkk⟩; have hb := hb.trans (hkk.mono hb.size); have HS2 := Lib.hid (HS2.out.below hkk); have HP3 := Lib.hid hp3; clear hp3 hkk))
        exact bodyPost_ret (v := .tuple #[p3, s2]) (by simp [results, go_sem, *]) rfl ⟨_, _, rfl, HP3.out, HS2.out, hb⟩
    · have HB := Lib.hid hB
      have HY := Lib.hid hy
      clear hB hy
      by_cases h4 : b % 4 < 2
      · rw [show mk (m + 1) (b :: t) = (leafOf b, t) by simp only [mk]; rw [if_pos h4]]
        go_enter Try.func61, Try.ntmps61
        go_wp2_with fail
        exact bodyPost_ret (v := .tuple #[.pointer (some ⟨w.heap.size, 0, none⟩), .slice (some ⟨g, off + 1, none⟩) t.length (c - 1)]) (by simp [results, go_sem, *]) rfl ⟨_, _, rfl, leaf_kind b w, HB.out.below (bel0 w _), bel0 w _⟩
      · rw [show mk (m + 1) (b :: t) = (T.pair (mk m t).1 (mk m (mk m t).2).1, (mk m (mk m t).2).2) by simp only [mk]; rw [if_neg h4]]
        have i1 := fun (wx : World) (hw : BS wx (.slice (some ⟨g, off + 1, none⟩) t.length (c - 1)) t) => make_any m t (m : Int) (.slice (some ⟨g, off + 1, none⟩) t.length (c - 1)) wx rfl (by omega) hw (fun x hx => HY.out x (List.mem_cons_of_mem _ hx))
        have i2 := fun (wx : World) (vx : Value) (hw : BS wx vx (mk m t).2) => make_any m (mk m t).2 (m : Int) vx wx rfl (by omega) hw (fun x hx => HY.out x (List.mem_cons_of_mem _ (mk_sub m t x hx)))
        have I1 := Lib.hid i1
        have I2 := Lib.hid i2
        clear i1 i2
        have hb := Below.refl w.heap.size w
        go_enter Try.func61, Try.ntmps61
        go_wp2_with (first
          | (go_at_call 61; first
              | (refine Calls.mono (I2.out _ _ HS.out) ?_; rintro e wn ⟨p2, s2, rfl, hp2, hs2, hkk⟩; have hb := hb.trans (hkk.mono hb.size); have HP := Lib.hid (HP.out.below hkk); have HP2 := Lib.hid hp2; have HS2 := Lib.hid hs2; clear hp2 hs2 hkk)
              | (refine Calls.mono (I1.out _ HB.out) ?_; rintro e wn ⟨p1, s1, rfl, hp1, hs1, hkk⟩; have hb := hb.trans (hkk.mono hb.size); have HP := Lib.hid hp1; have HS := Lib.hid hs1; clear hp1 hs1 hkk))
          | (go_at_call 63; refine Calls.mono (rpair_any _ HP.out HP2.out) ?_; rintro e wn ⟨p3, rfl, hp3, hkk⟩; have hb := hb.trans (hkk.mono hb.size); have HS2 := Lib.hid (HS2.out.below hkk); have HP3 := Lib.hid hp3; clear hp3 hkk))
        exact bodyPost_ret (v := .tuple #[p3, s2]) (by simp [results, go_sem, *]) rfl ⟨_, _, rfl, HP3.out, HS2.out, hb⟩
end Go.Proofs.Ytigkjmfkpmehlaa
