/- kinfolkref01.Of. -/
import Derived.Test.YtigkjmfkpmehlaaHas
namespace Go.Proofs.Ytigkjmfkpmehlaa
open Go.RowKit

/-- A slice of bools that is read only. -/
def BL (w : World) (v : Value) (l : List Bool) : Prop :=
  ∃ b off c, v = .slice (some ⟨b, off, none⟩) l.length c ∧ l.length ≤ c ∧ b < w.heap.size ∧ ∀ i u, l[i]? = some u → w.cell? ⟨b, off + i, none⟩ = some (.bool u)
theorem BL.below {w w' : World} {v : Value} {l : List Bool} (h : BL w v l) (hb : Below w.heap.size w w') : BL w' v l := by
  obtain ⟨b, off, c, rfl, h1, h2, h3⟩ := h
  exact ⟨b, off, c, rfl, h1, by have := hb.size; omega, fun i u hi => (hb.cell (p := ⟨b, off + i, none⟩) h2).trans (h3 i u hi)⟩
theorem BL.drew {w : World} {v : Value} {l : List Bool} (h : BL w v l) : BL w.drew v l := h
theorem BL.of_own {w : World} {base : Nat} {v : Value} {l : List Bool} {n : Nat} (h : w.ownsRow base 4 1 v n (l.map Value.bool)) (hn : n = l.length) (h1 : 1 ≤ n) : BL w v l := by
  subst hn
  obtain ⟨g, cap, rfl, _, hg, hc, hh⟩ := own_at h h1
  refine ⟨g, 0, cap, rfl, hc, hg, fun i u hi => ?_⟩
  have := hh i (.bool u) (by rw [List.getElem?_map, hi]; rfl)
  rw [Addr.add_lit] at this
  exact this
/-- What Of comes to. -/
def ofL : Nat → List Bool → T
  | 0, l => if l = [true] then .o else .z
  | d + 1, l => T.pair (ofL d (l.take (2 ^ d))) (ofL d (l.drop (2 ^ d)))

set_option maxRecDepth 100000 in
set_option maxHeartbeats 3200000 in
theorem of_step {b off c N M : Nat} {l1 l2 : List Bool} {t1 t2 : T} (w : World) (hM : M = N + N) (hp1 : 1 ≤ N) (hp : N ≤ 1048576) (h1 : M ≤ c)
    (i1 : ∀ (vx : Value) (wx : World), BL wx vx l1 → Calls Try.prog 67 #[vx] wx fun e w' => ∃ p, e = .returned p ∧ RV w' t1 p ∧ Below wx.heap.size wx w')
    (i2 : ∀ (vx : Value) (wx : World), BL wx vx l2 → Calls Try.prog 67 #[vx] wx fun e w' => ∃ p, e = .returned p ∧ RV w' t2 p ∧ Below wx.heap.size wx w')
    (B1 : BL w (.slice (some ⟨b, off, none⟩) N c) l1) (B2 : BL w (.slice (some ⟨b, off + N, none⟩) N (c - N)) l2) :
    Calls Try.prog 67 #[.slice (some ⟨b, off, none⟩) M c] w fun e w' => ∃ p, e = .returned p ∧ RV w' (T.pair t1 t2) p ∧ Below w.heap.size w w' := by
  have I1 := Lib.hid i1
  have I2 := Lib.hid i2
  have B1 := Lib.hid B1
  have B2 := Lib.hid B2
  clear i1 i2
  have q1 : (M : Int).tdiv 2 = (N : Int) := by rw [Int.tdiv_eq_ediv_of_nonneg (by omega)]; omega
  have q2 : (M : Int) / 2 = (N : Int) := by omega
  have q3 : ¬ (M : Int) = 1 := by omega
  have q4 : (N : Int) ≤ (M : Int) := by omega
  have q5 : (N : Int) ≤ (c : Int) := by omega
  have q6 : M - N = N := by omega
  have q7 : ¬ c = N := by omega
  have q8 : (M : Int) ≤ (c : Int) := by omega
  have q9 : IntKind.i64.wrap (N : Int) = (N : Int) := IntWalk.i64_in _ (by omega)
  have q10 : wrap64 (N : Int) = (N : Int) := IntWalk.wrap64_in _ (by omega)
  have q11 : ((M : Int) == 1) = false := by simp; omega
  have q12 : (0 : Int) ≤ (N : Int) := by omega
  clear hM
  have hb := Below.refl w.heap.size w
  go_enter Try.func67, Try.ntmps67
  go_upto_region 5 with (fail)
  have hb := bdrew hb
  go_region_held3 (fun _ => True) (exact trivial)
    (first
      | (go_at_call 67; first
          | ((with_reducible refine Calls.mono (I1.out _ _ (B1.out.below hb)) ?_); rintro e wn ⟨p1, rfl, hp1, hkk⟩; have H1 := Lib.hid hp1; have hb := hb.trans (hkk.mono hb.size); clear hp1 hkk)
          | ((with_reducible refine Calls.mono (I2.out _ _ (B2.out.below hb)) ?_); rintro e wn ⟨p2, rfl, hp2, hkk⟩; have H2 := Lib.hid hp2; have H1 := Lib.hid (H1.out.below hkk); have hb := hb.trans (hkk.mono hb.size); clear hp2 hkk))
      | (go_at_call 63; refine Calls.mono (rpair_any _ H1.out H2.out) ?_; rintro e wn ⟨p3, rfl, hp3, hkk⟩; have H3 := Lib.hid hp3; have hb := hb.trans (hkk.mono hb.size); clear hp3 hkk))
  all_goals
    go_wp2_with fail
    go_ret
    exact ⟨_, rfl, H3.out, hb⟩
set_option maxRecDepth 100000 in
set_option maxHeartbeats 3200000 in
theorem of_any : ∀ (d : Nat) {l : List Bool} {v : Value} (w : World), l.length = 2 ^ d → d ≤ 20 → BL w v l → Calls Try.prog 67 #[v] w fun e w' => ∃ p, e = .returned p ∧ RV w' (ofL d l) p ∧ Below w.heap.size w w'
  | 0, l, v, w, hl, _, h => by
    obtain ⟨x, rfl⟩ : ∃ x, l = [x] := List.length_eq_one_iff.1 hl
    obtain ⟨b, off, c, rfl, h1, h2, h3⟩ := h
    have hc := h3 0 x rfl
    simp only [Nat.add_zero] at hc
    clear h3
    have hb := Below.refl w.heap.size w
    simp only [List.length_cons, List.length_nil, Nat.zero_add] at h1 ⊢
    cases x with
    | true =>
      go_enter Try.func67, Try.ntmps67
      go_wp2_with (go_at_call 64; refine Calls.mono (rone_any _) ?_; rintro e wn ⟨p, rfl, hp, hkk⟩; have HP := Lib.hid hp; have hb := hb.trans (hkk.mono hb.size); clear hp hkk)
      go_ret
      exact ⟨_, rfl, HP.out, hb⟩
    | false =>
      go_enter Try.func67, Try.ntmps67
      go_wp2_with (go_at_call 36; refine Calls.mono (rzero_any _) ?_; rintro e wn ⟨p, rfl, hp, hkk⟩; have HP := Lib.hid hp; have hb := hb.trans (hkk.mono hb.size); clear hp hkk)
      go_ret
      exact ⟨_, rfl, HP.out, hb⟩
  | d + 1, l, v, w, hl, hd, h => by
    obtain ⟨b, off, c, rfl, h1, h2, h3⟩ := h
    have hp := pow_le (d := d) (by omega)
    have hp1 : 1 ≤ 2 ^ d := Nat.one_le_two_pow
    have e2 : 2 ^ (d + 1) = 2 ^ d + 2 ^ d := by omega
    rw [e2] at hl
    simp only [ofL]
    have i1 := fun (vx : Value) (wx : World) hx => of_any d (l := l.take (2 ^ d)) (v := vx) wx (by rw [List.length_take]; omega) (by omega) hx
    have i2 := fun (vx : Value) (wx : World) hx => of_any d (l := l.drop (2 ^ d)) (v := vx) wx (by rw [List.length_drop]; omega) (by omega) hx
    have B1 : (BL w (.slice (some ⟨b, off, none⟩) (2 ^ d) c) (l.take (2 ^ d))) := ⟨b, off, c, by rw [List.length_take, Nat.min_eq_left (by omega)], by rw [List.length_take]; omega, h2, fun i u hi => h3 i u (by
      rw [List.getElem?_take] at hi
      split at hi
      · exact hi
      · cases hi)⟩
    have B2 : (BL w (.slice (some ⟨b, off + 2 ^ d, none⟩) (2 ^ d) (c - 2 ^ d)) (l.drop (2 ^ d))) := ⟨b, off + 2 ^ d, c - 2 ^ d, by rw [List.length_drop, hl, Nat.add_sub_cancel], by rw [List.length_drop]; omega, h2, fun i u hi => by
      rw [List.getElem?_drop] at hi
      have := h3 _ u hi
      rwa [← Nat.add_assoc] at this⟩
    exact of_step w hl hp1 hp (by omega) i1 i2 B1 B2
end Go.Proofs.Ytigkjmfkpmehlaa
