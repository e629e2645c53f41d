/- made (of kinfolklaw01): an id of bytes, and the document's. -/
import Derived.Test.YtigkjmfkpmehlaaOwn
namespace Go.Proofs.Ytigkjmfkpmehlaa
open Go.RowKit

/-- The id that is made of bytes. -/
def mkT (ys : List Int) : T := (mk 7 (ys.take 60)).1
theorem mkT_norm (ys : List Int) : (mkT ys).norm = true ∧ (mkT ys).depth ≤ 7 := mk_norm 7 _
/-- The first ones of a slice. -/
theorem BS.take {w : World} {a : Option Addr} {n c : Nat} {ys : List Int} (h : BS w (.slice a n c) ys) (k : Nat) (hk : k = (ys.take 60).length) : BS w (.slice a k c) (ys.take 60) := by
  subst hk
  obtain ⟨a', c', hv, h⟩ := h
  simp only [Value.slice.injEq] at hv
  obtain ⟨rfl, rfl, rfl⟩ := hv
  refine ⟨_, _, rfl, ?_⟩
  rcases h with rfl | ⟨b, off, rfl, h1, h2, h3⟩
  · exact .inl rfl
  · refine .inr ⟨b, off, rfl, by rw [List.length_take]; omega, h2, fun i u hi => h3 i u ?_⟩
    rw [List.getElem?_take] at hi
    split at hi
    · exact hi
    · cases hi
theorem RV.far {w : World} {C : Nat} {c : Bool} {d : Option Addr} (hC : Bx w C c d) (x : Bool) (y : Option Addr) : ∀ {t : T} {v : Value}, RV w t v → RV ((w.setCell ⟨C, 0, none⟩ (.bool x)).setCell ⟨C, 1, none⟩ (.pointer y)) t v := by
  have hne : ∀ {b : Nat} {k : Int} {pl pr : Option Addr}, RN w b k pl pr → b ≠ C := by
    rintro b k pl pr hn rfl
    have := hn.symm.trans hC
    simp at this
  intro t
  induction t with
  | z => rintro v ⟨b, pl, pr, hv, hn⟩; exact ⟨b, pl, pr, hv, hn.far (hne hn) x y⟩
  | o => rintro v ⟨b, pl, pr, hv, hn⟩; exact ⟨b, pl, pr, hv, hn.far (hne hn) x y⟩
  | n l r il ir => rintro v ⟨b, pl, pr, hv, hn, hl, hr⟩; exact ⟨b, pl, pr, hv, hn.far (hne hn) x y, il hl, ir hr⟩

set_option maxRecDepth 100000 in
set_option maxHeartbeats 1600000 in
theorem made_any {ys : List Int} {v : Value} (w : World) (h : BS w v ys) (hy : ∀ x ∈ ys, 0 ≤ x ∧ x ≤ 255) (hl : ys.length ≤ 9223372036854775807) : Calls Try.prog 31 #[v] w fun e w' => ∃ vi p, e = .returned (.tuple #[vi, p]) ∧ IDV w' (mkT ys) vi ∧ RV w' (mkT ys) p ∧ Below w.heap.size w w' := by
  obtain ⟨a, c, rfl⟩ := h.shape
  have hc : ys.length ≤ c ∨ ys = [] := by
    obtain ⟨a', c', hv, h⟩ := h
    simp only [Value.slice.injEq] at hv
    obtain ⟨rfl, _, rfl⟩ := hv
    rcases h with h | ⟨b, off, _, h1, _⟩
    · exact .inr h
    · exact .inl h1
  have hc' : ys.length ≤ c := by
    rcases hc with hc | rfl
    · exact hc
    · simp
  have HB := fun k hk => h.take (k := k) hk
  have HB := Lib.hid HB
  have HY := Lib.hid hy
  clear h hy hc
  have b1 := Bx.new w false none
  have hb := bel0 w (.cells #[.bool false, .pointer none] 31)
  go_enter Try.func31, Try.ntmps31
  go_wp2_with fail
  all_goals
    refine Calls.mono (make_any 7 (ys.take 60) 7 _ _ rfl (by omega) ((HB.out _ (by rw [List.length_take]; omega)).below hb) (fun x hx => HY.out x (List.mem_of_mem_take hx))) ?_
    rintro e w1 ⟨p, s, rfl, hp, _, hkk⟩
    have hb1 := hb.trans (hkk.mono hb.size)
    have b2 := b1.below hkk
    have HP := Lib.hid hp
    clear hp hkk
    go_wp2_with (go_at_call 62; refine Calls.mono (own_any _ (mkT_norm ys).1 (by have := (mkT_norm ys).2; omega) HP.out) ?_; rintro e w2 ⟨v, rfl, hv, hkk⟩; obtain ⟨o, q, rfl, ho⟩ := hv.shape'; have HV := Lib.hid hv; have HP := Lib.hid (HP.out.below hkk); have hb1 := hb1.trans (hkk.mono hb1.size); have b2 := b2.below hkk; have c10 := b2.c0; have c11 := b2.c1; have f10 := b2.f0; have f11 := b2.f1; clear hv hkk)
    obtain ⟨b, pl, pr, rfl, hn⟩ := HP.out.shape
    have hf := bput hb1 (R := w.heap.size) (Nat.le_refl _) o q
    exact bodyPost_ret (v := .tuple #[.agg #[.bool o, .pointer q], .pointer (some ⟨b, 0, none⟩)]) (by simp [results, go_sem, *]) rfl ⟨_, _, rfl, HV.out.kp (Kp.put b2 o q), RV.far b2 o q HP.out, hf⟩
end Go.Proofs.Ytigkjmfkpmehlaa
