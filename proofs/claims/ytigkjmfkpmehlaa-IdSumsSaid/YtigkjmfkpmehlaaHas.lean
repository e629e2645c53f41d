/- kinfolkref01: Left, Right, deepest, Has. -/
import Derived.Test.YtigkjmfkpmehlaaHalvesWalk
import Derived.Laws.OwnMore
import Derived.Deep.Onto
namespace Go.Proofs.Ytigkjmfkpmehlaa
open Go.RowKit

theorem T.kind_leaf {t : T} (h : t.kind < 2) : t.left = t ∧ t.right = t := by cases t <;> simp_all [T.kind, T.left, T.right]
theorem rleft_any {t : T} {v : Value} (w : World) (h : RV w t v) : Calls Try.prog 80 #[v] w fun e w' => ∃ p, e = .returned p ∧ RV w' t.left p ∧ Below w.heap.size w w' := by
  cases t with
  | z =>
    have H := Lib.hid h
    obtain ⟨b, pl, pr, rfl, hn⟩ := h
    have c0 := hn.c0
    clear hn
    go_enter Try.func80, Try.ntmps80
    go_wp2_with fail
    go_ret
    exact ⟨_, rfl, H.out, Below.refl _ _⟩
  | o =>
    have H := Lib.hid h
    obtain ⟨b, pl, pr, rfl, hn⟩ := h
    have c0 := hn.c0
    clear hn
    go_enter Try.func80, Try.ntmps80
    go_wp2_with fail
    go_ret
    exact ⟨_, rfl, H.out, Below.refl _ _⟩
  | n l r =>
    obtain ⟨b, pl, pr, rfl, hn, hl, hr⟩ := h
    have HL := Lib.hid hl
    have c0 := hn.c0
    have c1 := hn.c1
    clear hn hl hr
    go_enter Try.func80, Try.ntmps80
    go_wp2_with fail
    go_ret
    exact ⟨_, rfl, HL.out, Below.refl _ _⟩
theorem rright_any {t : T} {v : Value} (w : World) (h : RV w t v) : Calls Try.prog 82 #[v] w fun e w' => ∃ p, e = .returned p ∧ RV w' t.right p ∧ Below w.heap.size w w' := by
  cases t with
  | z =>
    have H := Lib.hid h
    obtain ⟨b, pl, pr, rfl, hn⟩ := h
    have c0 := hn.c0
    clear hn
    go_enter Try.func82, Try.ntmps82
    go_wp2_with fail
    go_ret
    exact ⟨_, rfl, H.out, Below.refl _ _⟩
  | o =>
    have H := Lib.hid h
    obtain ⟨b, pl, pr, rfl, hn⟩ := h
    have c0 := hn.c0
    clear hn
    go_enter Try.func82, Try.ntmps82
    go_wp2_with fail
    go_ret
    exact ⟨_, rfl, H.out, Below.refl _ _⟩
  | n l r =>
    obtain ⟨b, pl, pr, rfl, hn, hl, hr⟩ := h
    have HR := Lib.hid hr
    have c0 := hn.c0
    have c2 := hn.c2
    clear hn hl hr
    go_enter Try.func82, Try.ntmps82
    go_wp2_with fail
    go_ret
    exact ⟨_, rfl, HR.out, Below.refl _ _⟩
set_option maxRecDepth 100000 in
set_option maxHeartbeats 1600000 in
theorem deepest_any {s t : T} {u v : Value} (w : World) (hs : RV w s u) (ht : RV w t v) (ds : s.depth ≤ 1000) (dt : t.depth ≤ 1000) : Calls Try.prog 65 #[u, v] w fun e w' => e = .returned (.int .i64 ((max s.depth t.depth : Nat) : Int)) ∧ Below w.heap.size w w' := by
  have HS := Lib.hid hs
  have HT := Lib.hid ht
  obtain ⟨b, pl, pr, rfl, _⟩ := hs.shape
  obtain ⟨c, ql, qr, rfl, _⟩ := ht.shape
  clear hs ht
  have hb := Below.refl w.heap.size w
  go_enter Try.func65, Try.ntmps65
  go_wp2_with (first
    | (go_at_call 60; (with_reducible refine Calls.mono (rdepth_any _ (HS.out.below hb) (by omega)) ?_); rintro e wn ⟨rfl, hk⟩; have hb := hb.trans (hk.mono hb.size); clear hk)
    | (go_at_call 60; refine Calls.mono (rdepth_any _ (HT.out.below hb) (by omega)) ?_; rintro e wn ⟨rfl, hk⟩; have hb := hb.trans (hk.mono hb.size); clear hk))
  all_goals
    go_ret
    refine ⟨?_, hb⟩
    first
      | (rw [show ((max s.depth t.depth : Nat) : Int) = (s.depth : Int) by omega]; rfl)
      | (rw [show ((max s.depth t.depth : Nat) : Int) = (t.depth : Int) by omega]; rfl)
/-- What Has comes to. -/
def hasL : Nat → T → List Bool
  | 0, t => [t.isO]
  | d + 1, t => hasL d t.left ++ hasL d t.right
theorem hasL_len : ∀ (d : Nat) (t : T), (hasL d t).length = 2 ^ d
  | 0, t => rfl
  | d + 1, t => by
    simp only [hasL, List.length_append]
    rw [hasL_len d, hasL_len d]
    omega
theorem own_at {w : World} {base : Nat} {v : Value} {n : Nat} {xs : List Value} (h : w.ownsRow base 4 1 v n xs) (hn : 1 ≤ n) : ∃ g cap, v = .slice (some ⟨g, 0, none⟩) n cap ∧ base ≤ g ∧ g < w.heap.size ∧ n ≤ cap ∧ ∀ j u, xs[j]? = some u → w.cell? ((⟨g, 0, none⟩ : Addr).add j) = some u := by
  have hc := fun g hg => h.cells (g := g) hg
  rcases h.2 with ⟨_, h0⟩ | ⟨g, cap, cur, rfl, hb, hg, hn, _⟩
  · omega
  · exact ⟨g, cap, rfl, hb, blk_lt hg, hn, hc g rfl⟩
theorem ob_ne (v : Value) : v.ownBlock = none ∨ v.ownBlock ≠ none := by
  cases h : v.ownBlock with
  | none => exact .inl rfl
  | some g => exact .inr (by simp)
theorem pow_le {d : Nat} (hd : d ≤ 20) : 2 ^ d ≤ 1048576 := Nat.le_trans (Nat.pow_le_pow_right (by omega) hd) (by decide)
theorem info4b : (Try.prog.info? 4).map (fun i => (i.zero, i.size, i.bytes)) = some (some (.bool false), 1, 1) := by kernel_rfl

set_option maxRecDepth 100000 in
set_option maxHeartbeats 3200000 in
theorem has_any : ∀ (d : Nat) {t : T} {v : Value} {k : Int} (w : World), k = (d : Int) → d ≤ 20 → RV w t v → Calls Try.prog 66 #[v, .int .i64 k] w fun e w' => ∃ s, e = .returned s ∧ w'.ownsRow w.heap.size 4 1 s (2 ^ d) ((hasL d t).map Value.bool) ∧ Below w.heap.size w w'
  | 0, t, v, k, w, hk, _, h => by
    obtain ⟨b, pl, pr, rfl, hn⟩ := h.shape
    have c0 := hn.c0
    clear hn h
    have hk0 : k = 0 := by simpa using hk
    subst hk0
    clear hk
    have hkd : (t.kind == 1) = t.isO := by cases t <;> rfl
    go_enter Try.func66, Try.ntmps66
    go_wp2_with fail
    go_ret
    exact ⟨_, rfl, World.ownsRow_lit w #[.bool t.isO] 1 (Nat.le_refl _) (by unfold maxLen; omega) rfl, bel0 _ _⟩
  | d + 1, t, v, k, w, hk, hd, h => by
    have H := Lib.hid h
    obtain ⟨b, pl, pr, rfl, _⟩ := h.shape
    clear h
    have hk0 : ¬ k = 0 := by omega
    have hk1 : wrap64 (k - 1) = (d : Int) := by rw [IntWalk.wrap64_in _ (by omega)]; omega
    have i1 := fun (vx : Value) (wx : World) hx => has_any d (t := t.left) (v := vx) (k := (d : Int)) wx rfl (by omega) hx
    have i2 := fun (vx : Value) (wx : World) hx => has_any d (t := t.right) (v := vx) (k := (d : Int)) wx rfl (by omega) hx
    have I1 := Lib.hid i1
    have I2 := Lib.hid i2
    clear i1 i2 hk
    obtain ⟨i0, hi0, hz0, hz1, hz2⟩ := info_parts info4b
    have hp := pow_le (d := d) (by omega)
    have hb := Below.refl w.heap.size w
    go_enter Try.func66, Try.ntmps66
    go_wp2_with (first
      | (go_at_call 80; refine Calls.mono (rleft_any _ (H.out.below hb)) ?_; rintro e wn ⟨p1, rfl, hp1, hkk⟩; have HP1 := Lib.hid hp1; have hb := hb.trans (hkk.mono hb.size); clear hp1 hkk)
      | (go_at_call 82; refine Calls.mono (rright_any _ (H.out.below hb)) ?_; rintro e wn ⟨p2, rfl, hp2, hkk⟩; have HP2 := Lib.hid hp2; have hb := hb.trans (hkk.mono hb.size); have HS1 := Lib.hid (HS1.out.kept (row := none) ⟨hkk.os, hkk.tape, hkk.output, hkk.size, fun k hk _ => hkk.block k hk⟩ (ob_ne _)); clear hp2 hkk)
      | (go_at_call 66; first
          | (refine Calls.mono (I2.out _ _ HP2.out) ?_; rintro e wn ⟨s2, rfl, hs2, hkk⟩; obtain ⟨g2, cap2, rfl, _, _, _, hc2⟩ := own_at hs2 Nat.one_le_two_pow; have HC2 := Lib.hid hc2; have HS1 := Lib.hid (HS1.out.kept (row := none) ⟨hkk.os, hkk.tape, hkk.output, hkk.size, fun k hk _ => hkk.block k hk⟩ (ob_ne _)); have hb := hb.trans (hkk.mono hb.size); clear hs2 hkk hc2)
          | (refine Calls.mono (I1.out _ _ HP1.out) ?_; rintro e wn ⟨s1, rfl, hs1, hkk⟩; have HS1 := Lib.hid (hs1.mono hb.size); have hb := hb.trans (hkk.mono hb.size); clear hs1 hkk))
      | (at_builtin; refine wpList_append_own_at _ rfl _ _ 99 rfl w.heap.size 4 i0 (.bool false) 1 1 Try.underlying99 hi0 hz0 hz1 hz2 rfl (by decide) _ _ _ rfl HS1.out ⟨g2, 0, none⟩ (2 ^ d) cap2 ((hasL d t.right).map Value.bool) rfl (by simp [hasL_len]) HC2.out (fun x hx => by simp only [List.mem_map] at hx; obtain ⟨y, _, rfl⟩ := hx; rfl) (by unfold maxLen; omega) (by omega) hb.size ?_; intro v' w1 hown' hgrow _ hat))
    go_ret
    refine ⟨_, rfl, ?_, hb.grown hgrow hb.size (fun k hk => (HS1.out.lt k hk).1)⟩
    rw [show 2 ^ (d + 1) = 2 ^ d + 2 ^ d by omega]
    simp only [hasL, List.map_append]
    exact hown'
end Go.Proofs.Ytigkjmfkpmehlaa
