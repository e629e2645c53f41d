/- kinfolkref02.Make, Add, Left, Right. (Printed by wip/ids/evmake.py.) -/
import Derived.Test.YtigkjmfkpmehlaaEvNode
namespace Go.Proofs.Ytigkjmfkpmehlaa
open Go.RowKit

theorem rnode_all {k : Nat} {a b t : Ev} {K : Int} {va vb : Value} (w : World) (hK : K = (k : Int)) (ha : REV w a va) (hb : REV w b vb) (na : a.nf = true) (nb : b.nf = true) (hk : k + a.top + b.top < 1000000000) (ht : Ev.node k a b = t) :
    Calls Try.prog 75 #[.int .u64 K, va, vb] w fun x w' => ∃ v, x = .returned v ∧ REV w' t v ∧ Below w.heap.size w w' := by
  cases hal : Ev.alike a b with
  | false => exact rnode_any w hK ha hb na nb hk hal ht
  | true =>
    obtain ⟨n, rfl, rfl⟩ := Ev.alike_yes hal
    have e : Ev.node k (.lf n) (.lf n) = .lf (k + n) := by
      unfold Ev.node
      rw [if_pos hal]
      rfl
    rw [e] at ht
    subst ht
    exact rnode_leaf w hK ha hb (by simp only [Ev.top] at hk; omega)
theorem mkE_small (m : Nat) (hm : m ≤ 100) (ys zs : List Int) (k : Nat) (hk : k ≤ 3) : k + (mkE m ys).1.top + (mkE m zs).1.top < 1000000000 := by
  have h1 := (mkE_nf m ys).2.2
  have h2 := (mkE_nf m zs).2.2
  omega
set_option maxRecDepth 100000 in
set_option maxHeartbeats 1600000 in
theorem rmake_any : ∀ (m : Nat) (ys : List Int) (k : Int) (v : Value) (w : World), k = (m : Int) → m ≤ 100 → BS w v ys → (∀ x ∈ ys, 0 ≤ x ∧ x ≤ 255) → Calls Try.prog 51 #[v, .int .i64 k] w fun e w' => ∃ p s, e = .returned (.tuple #[p, s]) ∧ REV w' (mkE m ys).1 p ∧ BS w' s (mkE m ys).2 ∧ Below w.heap.size w w'
  | m, [], k, v, w, _, _, h, _ => by
    obtain ⟨a, c, rfl⟩ := h.shape
    have HE := Lib.hid (show mkE m [] = (.lf 0, []) by cases m <;> rfl)
    rw [HE.out]
    simp only [List.length_nil]
    clear h
    go_enter Try.func51, Try.ntmps51
    go_wp2_with (go_at_call 74; refine Calls.mono (rleaf_any (n := 0) _ rfl) ?_; rintro e wn ⟨v, rfl, hv, hk⟩; have HV := Lib.hid hv; clear hv)
    exact bodyPost_ret (v := .tuple #[v, .slice none 0 0]) (by simp [results, go_sem, *]) rfl ⟨_, _, rfl, HV.out, ⟨none, 0, rfl, .inl rfl⟩, hk⟩
  | 0, b :: t, k, v, w, hk, hm, h, hy => by
    obtain ⟨g, off, c, rfl, hc, hx, hB⟩ := h.cons
    obtain ⟨hb0, hb1⟩ := hy b (by simp)
    have hk0 : k = 0 := by simpa using hk
    clear hk
    subst hk0
    clear h
    have HLF := Lib.hid (fun (wx : World) => rleaf_any (n := (b / 4 % 8).toNat) (k := b / 4 % 8) wx (by omega))
    rcases hB with ⟨rfl, rfl⟩ | ⟨hc1, hB⟩
    · have hB : BS w (.slice (some ⟨g, off, none⟩) 0 0) [] := ⟨_, _, rfl, .inl rfl⟩
      have HB := Lib.hid hB
      clear hB hy
      simp only [mkE]
      go_enter Try.func51, Try.ntmps51
      go_wp2_with (go_at_call 74; (refine Calls.mono (HLF.out _) ?_); rintro e wn ⟨pv, rfl, hv, hk⟩; have HV := Lib.hid hv; clear hv)
      exact bodyPost_ret (v := .tuple #[pv, .slice (some ⟨g, off, none⟩) 0 0]) (by simp [results, go_sem, *]) rfl ⟨_, _, rfl, HV.out, HB.out.below hk, hk⟩
    · have HB := Lib.hid hB
      clear hB hy
      simp only [mkE]
      go_enter Try.func51, Try.ntmps51
      go_wp2_with (go_at_call 74; (refine Calls.mono (HLF.out _) ?_); rintro e wn ⟨pv, rfl, hv, hk⟩; have HV := Lib.hid hv; clear hv)
      exact bodyPost_ret (v := .tuple #[pv, .slice (some ⟨g, off + 1, none⟩) t.length (c - 1)]) (by simp [results, go_sem, *]) rfl ⟨_, _, rfl, HV.out, HB.out.below hk, hk⟩
  | m + 1, b :: t, k, v, w, hk, hm, h, hy => by
    obtain ⟨g, off, c, rfl, hc, hx, hB⟩ := h.cons
    obtain ⟨hb0, hb1⟩ := hy b (by simp)
    have hk0 : ¬ k = 0 := by omega
    have hk1 : wrap64 (k - 1) = (m : Int) := by rw [IntWalk.wrap64_in _ (by omega)]; omega
    clear hk
    clear h
    rcases hB with ⟨rfl, rfl⟩ | ⟨hc1, hB⟩
    · have hB : BS w (.slice (some ⟨g, off, none⟩) 0 0) [] := ⟨_, _, rfl, .inl rfl⟩
      have HB := Lib.hid hB
      have HY := Lib.hid hy
      clear hB hy
      by_cases h4 : b % 4 < 2
      · rw [show mkE (m + 1) (b :: []) = (.lf (b / 4 % 8).toNat, []) by simp only [mkE]; rw [if_pos h4]]
        have HLF := Lib.hid (fun (wx : World) => rleaf_any (n := (b / 4 % 8).toNat) (k := b / 4 % 8) wx (by omega))
        go_enter Try.func51, Try.ntmps51
        go_wp2_with (go_at_call 74; (refine Calls.mono (HLF.out _) ?_); rintro e wn ⟨pv, rfl, hv, hk⟩; have HV := Lib.hid hv; clear hv)
        exact bodyPost_ret (v := .tuple #[pv, .slice (some ⟨g, off, none⟩) 0 0]) (by simp [results, go_sem, *]) rfl ⟨_, _, rfl, HV.out, HB.out.below hk, hk⟩
      · rw [show mkE (m + 1) (b :: []) = (Ev.node (b / 4 % 4).toNat (mkE m []).1 (mkE m (mkE m []).2).1, (mkE m (mkE m []).2).2) by simp only [mkE]; rw [if_neg h4]]
        have HN := Lib.hid (fun (wx : World) (p1 p2 : Value) (h1 : REV wx (mkE m []).1 p1) (h2 : REV wx (mkE m (mkE m []).2).1 p2) => rnode_all (k := (b / 4 % 4).toNat) (K := b / 4 % 4) wx (by omega) h1 h2 (mkE_nf m _).1 (mkE_nf m _).1 (mkE_small m (by omega) _ _ _ (by omega)) rfl)
        have i1 := fun (wx : World) (hw : BS wx (.slice (some ⟨g, off, none⟩) 0 0) []) => rmake_any m [] (m : Int) (.slice (some ⟨g, off, none⟩) 0 0) wx rfl (by omega) hw (fun x hx => by cases hx)
        have i2 := fun (wx : World) (vx : Value) (hw : BS wx vx (mkE m []).2) => rmake_any m (mkE m []).2 (m : Int) vx wx rfl (by omega) hw (fun x hx => HY.out x (List.mem_cons_of_mem _ (mkE_sub m [] x hx)))
        have I1 := Lib.hid i1
        have I2 := Lib.hid i2
        clear i1 i2
        have hb := Below.refl w.heap.size w
        go_enter Try.func51, Try.ntmps51
        go_wp2_with (first
          | (go_at_call 51; first
              | (refine Calls.mono (I2.out _ _ HS.out) ?_; rintro e wn ⟨p2, s2, rfl, hp2, hs2, hkk⟩; have hb := hb.trans (hkk.mono hb.size); have HP := Lib.hid (HP.out.below hkk); have HP2 := Lib.hid hp2; have HS2 := Lib.hid hs2; clear hp2 hs2 hkk)
              | (refine Calls.mono (I1.out _ HB.out) ?_; rintro e wn ⟨p1, s1, rfl, hp1, hs1, hkk⟩; have hb := hb.trans (hkk.mono hb.size); have HP := Lib.hid hp1; have HS := Lib.hid hs1; clear hp1 hs1 hkk))
          | (go_at_call 75; refine Calls.mono (HN.out _ _ _ HP.out HP2.out) ?_; rintro e wn ⟨p3, rfl, hp3, hkk⟩; have hb := hb.trans (hkk.mono hb.size); have HS2 := Lib.hid (HS2.out.below hkk); have HP3 := Lib.hid hp3; clear hp3 hkk))
        exact bodyPost_ret (v := .tuple #[p3, s2]) (by simp [results, go_sem, *]) rfl ⟨_, _, rfl, HP3.out, HS2.out, hb⟩
    · have HB := Lib.hid hB
      have HY := Lib.hid hy
      clear hB hy
      by_cases h4 : b % 4 < 2
      · rw [show mkE (m + 1) (b :: t) = (.lf (b / 4 % 8).toNat, t) by simp only [mkE]; rw [if_pos h4]]
        have HLF := Lib.hid (fun (wx : World) => rleaf_any (n := (b / 4 % 8).toNat) (k := b / 4 % 8) wx (by omega))
        go_enter Try.func51, Try.ntmps51
        go_wp2_with (go_at_call 74; (refine Calls.mono (HLF.out _) ?_); rintro e wn ⟨pv, rfl, hv, hk⟩; have HV := Lib.hid hv; clear hv)
        exact bodyPost_ret (v := .tuple #[pv, .slice (some ⟨g, off + 1, none⟩) t.length (c - 1)]) (by simp [results, go_sem, *]) rfl ⟨_, _, rfl, HV.out, HB.out.below hk, hk⟩
      · rw [show mkE (m + 1) (b :: t) = (Ev.node (b / 4 % 4).toNat (mkE m t).1 (mkE m (mkE m t).2).1, (mkE m (mkE m t).2).2) by simp only [mkE]; rw [if_neg h4]]
        have HN := Lib.hid (fun (wx : World) (p1 p2 : Value) (h1 : REV wx (mkE m t).1 p1) (h2 : REV wx (mkE m (mkE m t).2).1 p2) => rnode_all (k := (b / 4 % 4).toNat) (K := b / 4 % 4) wx (by omega) h1 h2 (mkE_nf m _).1 (mkE_nf m _).1 (mkE_small m (by omega) _ _ _ (by omega)) rfl)
        have i1 := fun (wx : World) (hw : BS wx (.slice (some ⟨g, off + 1, none⟩) t.length (c - 1)) t) => rmake_any m t (m : Int) (.slice (some ⟨g, off + 1, none⟩) t.length (c - 1)) wx rfl (by omega) hw (fun x hx => HY.out x (List.mem_cons_of_mem _ hx))
        have i2 := fun (wx : World) (vx : Value) (hw : BS wx vx (mkE m t).2) => rmake_any m (mkE m t).2 (m : Int) vx wx rfl (by omega) hw (fun x hx => HY.out x (List.mem_cons_of_mem _ (mkE_sub m t x hx)))
        have I1 := Lib.hid i1
        have I2 := Lib.hid i2
        clear i1 i2
        have hb := Below.refl w.heap.size w
        go_enter Try.func51, Try.ntmps51
        go_wp2_with (first
          | (go_at_call 51; first
              | (refine Calls.mono (I2.out _ _ HS.out) ?_; rintro e wn ⟨p2, s2, rfl, hp2, hs2, hkk⟩; have hb := hb.trans (hkk.mono hb.size); have HP := Lib.hid (HP.out.below hkk); have HP2 := Lib.hid hp2; have HS2 := Lib.hid hs2; clear hp2 hs2 hkk)
              | (refine Calls.mono (I1.out _ HB.out) ?_; rintro e wn ⟨p1, s1, rfl, hp1, hs1, hkk⟩; have hb := hb.trans (hkk.mono hb.size); have HP := Lib.hid hp1; have HS := Lib.hid hs1; clear hp1 hs1 hkk))
          | (go_at_call 75; refine Calls.mono (HN.out _ _ _ HP.out HP2.out) ?_; rintro e wn ⟨p3, rfl, hp3, hkk⟩; have hb := hb.trans (hkk.mono hb.size); have HS2 := Lib.hid (HS2.out.below hkk); have HP3 := Lib.hid hp3; clear hp3 hkk))
        exact bodyPost_ret (v := .tuple #[p3, s2]) (by simp [results, go_sem, *]) rfl ⟨_, _, rfl, HP3.out, HS2.out, hb⟩
set_option maxRecDepth 100000 in
set_option maxHeartbeats 1600000 in
theorem radd_any {e t : Ev} {k : Nat} {K : Int} {v : Value} (w : World) (hK : K = (k : Int)) (h : REV w e v) (hk : e.base + k < 1000000000) (ht : e.add k = t) : Calls Try.prog 95 #[v, .int .u64 K] w fun x w' => ∃ u, x = .returned u ∧ REV w' t u ∧ Below w.heap.size w w' := by
  subst hK
  obtain ⟨b, pl, pr, rfl, hn, hg⟩ := h.view
  have HT := Lib.hid (fun (wx : World) (r : Nat) (hb : Below w.heap.size w wx) (h1 : EN wx r (e.base + k) pl pr) => (by rw [← ht]; exact REV.of_add (hg.below hb) h1 : REV wx t (.pointer (some ⟨r, 0, none⟩))))
  obtain ⟨A, hA⟩ : ∃ A, e.base = A := ⟨_, rfl⟩
  rw [hA] at hn HT hk
  have s1 : IntKind.u64.wrap ((A : Int) + (k : Int)) = ((A + k : Nat) : Int) := by rw [u64_in (by omega) (by omega)]; omega
  obtain ⟨S, hS⟩ : ∃ n, A + k = n := ⟨_, rfl⟩
  rw [hS] at s1 HT
  clear h hg ht hA hk hS
  have hb := Below.refl w.heap.size w
  have hn := hn.drew
  go_enter Try.func95, Try.ntmps95
  go_upto_region 1 with (fail)
  go_region_held3 (fun w' => w'.cell? ⟨b, 0, none⟩ = some (.int .u64 (A : Int)) ∧ w'.cell? ⟨b, 1, none⟩ = some (.pointer pl) ∧ w'.cell? ⟨b, 2, none⟩ = some (.pointer pr))
    ((refine (fun h => ⟨EN.c0 h, EN.c1 h, EN.c2 h⟩ : EN _ b A pl pr → _) ?_ <;> repeat (first | exact hn | refine EN.alloc ?_ _)))
    (fail)
  go_wp2_with fail
  go_ret
  have hb1 := hb.alloc hb.size (.cells #[.int .u64 (S : Int), .pointer pl, .pointer pr] 109)
  exact ⟨_, rfl, HT.out _ _ (bdrew hb1) (EN.new w S pl pr).drew, bdrew hb1⟩
set_option maxRecDepth 100000 in
set_option maxHeartbeats 1600000 in
theorem rleftE_any {e t : Ev} {v : Value} (w : World) (h : REV w e v) (hk : e.top < 1000000000) (ht : e.left = t) : Calls Try.prog 79 #[v] w fun x w' => ∃ u, x = .returned u ∧ REV w' t u ∧ Below w.heap.size w w' := by
  cases e with
  | lf n =>
    subst ht
    have H := Lib.hid h
    obtain ⟨b, rfl, hn⟩ := h
    have c1 := hn.c1
    go_enter Try.func79, Try.ntmps79
    go_wp2_with fail
    go_ret
    exact ⟨_, rfl, H.out, Below.refl _ _⟩
  | nd n x y =>
    obtain ⟨b, p, q, rfl, hn, hx, hy⟩ := h
    have bx := x.base_top
    rw [Ev.top_nd] at hk
    have HA := Lib.hid (fun (wx : World) (hb : Below w.heap.size w wx) => radd_any (k := n) (K := (n : Int)) wx rfl (REV.below hb hx) (by omega) ht)
    have c1 := hn.c1
    have hb := bdrew (Below.refl w.heap.size w)
    clear hx hy hk bx ht
    go_enter Try.func79, Try.ntmps79
    go_upto_region 3 with (fail)
    have hn := hn.drew
    clear c1
    go_region_held3 (fun w' => w'.cell? ⟨b, 0, none⟩ = some (.int .u64 (n : Int)) ∧ w'.cell? ⟨b, 1, none⟩ = some (.pointer (some ⟨p, 0, none⟩))) (exact ⟨hn.c0, hn.c1⟩)
      (first
        | (go_at_call 95; (with_reducible refine Calls.mono (HA.out _ hb) ?_); rintro e wn ⟨u, rfl, hu, hkk⟩; have hb := hb.trans (hkk.mono hb.size); have hn := hn.below hkk; have HU := Lib.hid hu; clear hu hkk))
    go_wp2_with fail
    go_ret
    exact ⟨_, rfl, HU.out, hb⟩
set_option maxRecDepth 100000 in
set_option maxHeartbeats 1600000 in
theorem rrightE_any {e t : Ev} {v : Value} (w : World) (h : REV w e v) (hk : e.top < 1000000000) (ht : e.right = t) : Calls Try.prog 81 #[v] w fun x w' => ∃ u, x = .returned u ∧ REV w' t u ∧ Below w.heap.size w w' := by
  cases e with
  | lf n =>
    subst ht
    have H := Lib.hid h
    obtain ⟨b, rfl, hn⟩ := h
    have c1 := hn.c1
    go_enter Try.func81, Try.ntmps81
    go_wp2_with fail
    go_ret
    exact ⟨_, rfl, H.out, Below.refl _ _⟩
  | nd n x y =>
    obtain ⟨b, p, q, rfl, hn, hx, hy⟩ := h
    have bx := y.base_top
    rw [Ev.top_nd] at hk
    have HA := Lib.hid (fun (wx : World) (hb : Below w.heap.size w wx) => radd_any (k := n) (K := (n : Int)) wx rfl (REV.below hb hy) (by omega) ht)
    have c1 := hn.c1
    have hb := bdrew (Below.refl w.heap.size w)
    clear hx hy hk bx ht
    go_enter Try.func81, Try.ntmps81
    go_upto_region 3 with (fail)
    have hn := hn.drew
    clear c1
    go_region_held3 (fun w' => w'.cell? ⟨b, 0, none⟩ = some (.int .u64 (n : Int)) ∧ w'.cell? ⟨b, 2, none⟩ = some (.pointer (some ⟨q, 0, none⟩))) (exact ⟨hn.c0, hn.c2⟩)
      (first
        | (go_at_call 95; (with_reducible refine Calls.mono (HA.out _ hb) ?_); rintro e wn ⟨u, rfl, hu, hkk⟩; have hb := hb.trans (hkk.mono hb.size); have hn := hn.below hkk; have HU := Lib.hid hu; clear hu hkk))
    go_wp2_with fail
    go_ret
    exact ⟨_, rfl, HU.out, hb⟩
end Go.Proofs.Ytigkjmfkpmehlaa
