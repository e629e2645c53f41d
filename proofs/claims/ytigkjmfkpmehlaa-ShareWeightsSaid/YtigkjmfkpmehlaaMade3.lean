/- made (of kinfolklaw03). (Turned from Made by wip/ids/made3.py.) -/
import Derived.Test.YtigkjmfkpmehlaaOwn3
namespace Go.Proofs.Ytigkjmfkpmehlaa
open Go.RowKit

set_option maxRecDepth 100000 in
set_option maxHeartbeats 1600000 in
theorem made3_any {ys : List Int} {v : Value} (w : World) (h : BS w v ys) (hy : ∀ x ∈ ys, 0 ≤ x ∧ x ≤ 255) (hl : ys.length ≤ 9223372036854775807) : Calls Try.prog 42 #[v] w fun e w' => ∃ vi p, e = .returned (.tuple #[vi, p]) ∧ IDV w' (mkT ys) vi ∧ RV w' (mkT ys) p ∧ Below w.heap.size w w' := by
  obtain ⟨a, c, rfl⟩ := h.shape
  have hc : ys.length ≤ c ∨ ys = [] := by
    obtain ⟨a', c', hv, h⟩ := h
    simp only [Value.slice.injEq] at hv
    obtain ⟨rfl, _, rfl⟩ := hv
    rcases h with h | ⟨b, off, _, h1, _⟩
    · exact .inr h
    · exact .inl h1
  have hc' : ys.length ≤ c := by
    rcases hc with hc | rfl
    · exact hc
    · simp
  have HB := fun k hk => h.take (k := k) hk
  have HB := Lib.hid HB
  have HY := Lib.hid hy
  clear h hy hc
  have b1 := Bx.new w false none
  have hb := bel0 w (.cells #[.bool false, .pointer none] 31)
  go_enter Try.func42, Try.ntmps42
  go_wp2_with fail
  all_goals
    refine Calls.mono (make_any 7 (ys.take 60) 7 _ _ rfl (by omega) ((HB.out _ (by rw [List.length_take]; omega)).below hb) (fun x hx => HY.out x (List.mem_of_mem_take hx))) ?_
    rintro e w1 ⟨p, s, rfl, hp, _, hkk⟩
    have hb1 := hb.trans (hkk.mono hb.size)
    have b2 := b1.below hkk
    have HP := Lib.hid hp
    clear hp hkk
    go_wp2_with (go_at_call 68; refine Calls.mono (own3_any _ (mkT_norm ys).1 (by have := (mkT_norm ys).2; omega) HP.out) ?_; rintro e w2 ⟨v, rfl, hv, hkk⟩; obtain ⟨o, q, rfl, ho⟩ := hv.shape'; have HV := Lib.hid hv; have HP := Lib.hid (HP.out.below hkk); have hb1 := hb1.trans (hkk.mono hb1.size); have b2 := b2.below hkk; have c10 := b2.c0; have c11 := b2.c1; have f10 := b2.f0; have f11 := b2.f1; clear hv hkk)
    obtain ⟨b, pl, pr, rfl, hn⟩ := HP.out.shape
    have hf := bput hb1 (R := w.heap.size) (Nat.le_refl _) o q
    exact bodyPost_ret (v := .tuple #[.agg #[.bool o, .pointer q], .pointer (some ⟨b, 0, none⟩)]) (by simp [results, go_sem, *]) rfl ⟨_, _, rfl, HV.out.kp (Kp.put b2 o q), RV.far b2 o q HP.out, hf⟩
end Go.Proofs.Ytigkjmfkpmehlaa
