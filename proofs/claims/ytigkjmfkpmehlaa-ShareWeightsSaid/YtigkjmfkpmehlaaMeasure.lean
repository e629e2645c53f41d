/- share.Measure; awake (of kinfolklaw03). -/
import Derived.Test.YtigkjmfkpmehlaaSpans
import Derived.Deep.CutBlock
namespace Go.Proofs.Ytigkjmfkpmehlaa
open Go.RowKit

/-- What Measure comes to. -/
def mB : Nat → Nat → List (Nat × Nat) → Option (Nat × Nat)
  | a, b, [] => some (a, b)
  | a, b, p :: r => (cSumBits .add .f64 a b p.2 4607182418800017408).bind fun q => mB q.1 q.2 r
theorem own_forms {w : World} {base : Nat} {v : Value} {n : Nat} {xs : List Value} (h : w.ownsRow base 23 1 v n xs) : ∃ a cap, v = .slice a n cap ∧ ((a = none ∧ cap = 0 ∧ n = 0) ∨ ∃ g, a = some ⟨g, 0, none⟩ ∧ n ≤ cap ∧ ∀ j u, xs[j]? = some u → w.cell? ⟨g, j, none⟩ = some u) := by
  have hc := fun g hg => h.cells (g := g) hg
  rcases h.2 with ⟨rfl, rfl⟩ | ⟨g, cap, cur, rfl, _, _, hn, _⟩
  · exact ⟨none, 0, rfl, .inl ⟨rfl, rfl, rfl⟩⟩
  · refine ⟨_, cap, rfl, .inr ⟨g, rfl, hn, fun j u hj => ?_⟩⟩
    have := hc g rfl j u hj
    rwa [Addr.add_lit, Nat.zero_add] at this

set_option maxRecDepth 100000 in
set_option maxHeartbeats 3200000 in
theorem Measure_any {t : T} {xs : List (Nat × Nat)} {re im : Nat} {v : Value} (w : World) (h : IDV w t v) (hsp : spB t 0 4607182418800017408 = some xs) (hm : mB 0 0 xs = some (re, im)) (hmax : xs.length ≤ 1000000) :
    Calls Try.prog 45 #[v] w fun e w' => e = .returned (.complex .f64 re im) ∧ Below w.heap.size w w' := by
  obtain ⟨o, q, rfl, _⟩ := h.shape'
  have HV := Lib.hid h
  have HSP := Lib.hid hsp
  have HM := Lib.hid hm
  clear h hsp hm
  have hb := bel0 w (.cells #[.bool o, .pointer q] 31)
  go_enter Try.func45, Try.ntmps45
  go_upto_block 0 with (go_at_call 49; refine Calls.mono (Spans_any _ (HV.out.below hb) HSP.out hmax) ?_; rintro e wn ⟨u, rfl, ho, hkk⟩; have hb := hb.trans (hkk.mono hb.size); obtain ⟨ad, cap, rfl, hf⟩ := own_forms ho; have HF := Lib.hid hf; clear ho hkk hf)
  rcases HF.out with ⟨rfl, rfl, hn⟩ | ⟨g, rfl, hn, hcell⟩
  · obtain rfl : xs = [] := List.eq_nil_of_length_eq_zero hn
    clear HF hn hmax
    have hri := HM.out
    simp only [mB, Option.some.injEq, Prod.mk.injEq] at hri
    obtain ⟨rfl, rfl⟩ := hri
    go_wp2_with fail
    go_loopw [3, 9] (fun u3 u9 wr => wr = wn ∧ u3 = .complex .f64 0 0 ∧ u9 = .int .i64 0) (fun _ _ _ => 0)
    case atStart => exact ⟨rfl, rfl, rfl⟩
    case round =>
      obtain ⟨rfl, rfl, rfl⟩ := hrel
      go_wp2_with fail
      go_ret
      exact ⟨rfl, hb⟩
  · have HC := Lib.hid hcell
    clear HF hcell
    have hn' : (xs.length : Int) ≤ (cap : Int) := by omega
    go_wp2_with fail
    go_loopw [3, 9] (fun u3 u9 wr => wr = wn ∧ ∃ (j a b : Nat), j ≤ xs.length ∧ u3 = .complex .f64 a b ∧ u9 = .int .i64 (j : Int) ∧ mB a b (xs.drop j) = some (re, im)) (fun _ u9 _ => xs.length - (intOf u9).toNat)
    case atStart => exact ⟨rfl, 0, 0, 0, by omega, rfl, rfl, HM.out⟩
    case round =>
      obtain ⟨rfl, j, a, b, hj, rfl, rfl, hmj⟩ := hrel
      by_cases hlt : j < xs.length
      · have hx : xs[j]? = some xs[j] := List.getElem?_eq_getElem hlt
        have hc := HC.out j (cx xs[j]) (by rw [List.getElem?_map, hx]; rfl)
        rw [List.drop_eq_getElem_cons hlt] at hmj
        simp only [mB] at hmj
        obtain ⟨⟨a', b'⟩, hs, hmj⟩ := bind_some hmj
        have hsum := fun (W : World) => run_complex_sum (P := Try.prog) W .add (.inl rfl) 23 .f64 a b _ _ _ _ hs
        have HMJ := Lib.hid hmj
        generalize xs[j] = p at *
        obtain ⟨x, y⟩ := p
        simp only [cx] at hc hsum
        clear hs hmj hx
        go_wp2_with fail
        refine ⟨⟨by trivial, j + 1, a', b', by omega, by trivial, by go_num, HMJ.out⟩, by simp [intOf]; omega⟩
      · obtain rfl : j = xs.length := by omega
        rw [List.drop_length] at hmj
        simp only [mB, Option.some.injEq, Prod.mk.injEq] at hmj
        obtain ⟨rfl, rfl⟩ := hmj
        go_wp2_with fail
        go_ret
        exact ⟨rfl, hb⟩
end Go.Proofs.Ytigkjmfkpmehlaa
