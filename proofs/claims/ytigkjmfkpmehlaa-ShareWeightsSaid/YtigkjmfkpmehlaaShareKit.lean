/- The contracts of the Share laws, each with what it hands back as a letter. -/
import Derived.Test.YtigkjmfkpmehlaaBothLaw
import Derived.Test.YtigkjmfkpmehlaaRBoth
import Derived.Test.YtigkjmfkpmehlaaSums
import Derived.Test.YtigkjmfkpmehlaaAwake3
namespace Go.Proofs.Ytigkjmfkpmehlaa
open Go.RowKit

theorem made3_is {ys : List Int} {t : T} {v : Value} (w : World) (h : BS w v ys) (hy : ∀ x ∈ ys, 0 ≤ x ∧ x ≤ 255) (hl : ys.length ≤ 9223372036854775807) (ht : mkT ys = t) : Calls Try.prog 42 #[v] w fun e w' => ∃ vi p, e = .returned (.tuple #[vi, p]) ∧ IDV w' t vi ∧ RV w' t p ∧ Below w.heap.size w w' := by
  subst ht
  exact made3_any w h hy hl
theorem ct_small {t : T} (h : t.depth ≤ 16) : ct t ≤ 65536 := ct_le t 16 h
theorem fl_self {n : Nat} (h : n < 2 ^ 53) : FloatKind.f64.format.order (fl n) (fl n) = some .eq := by rw [fl_order h h]; simp
theorem rspans_at {t : T} {xs : List (Nat × Nat)} {v : Value} (w : World) (h : RV w t v) (hc : ct t ≤ 65536) (hx : spN t 0 65536 = xs) : Calls Try.prog 43 #[v, .int .u64 0, .int .u64 65536] w fun e w' => ∃ u, e = .returned u ∧ RS w' w.heap.size u xs ∧ Below w.heap.size w w' := by
  subst hx
  exact rspans_any t 0 65536 0 65536 v w rfl rfl (by decide) (by omega) h
theorem rboth_at {s t r : T} {u v : Value} (w : World) (hs : RV w s u) (ht : RV w t v) (hr : s.both t = r) : Calls Try.prog 44 #[u, v] w fun e w' => ∃ p, e = .returned p ∧ RV w' r p ∧ Below w.heap.size w w' := by
  subst hr
  exact rboth_any u v w hs ht
theorem Measure_at {t : T} {v : Value} {x y : Nat} (w : World) (h : IDV w t v) (hd : t.depth ≤ 16) (hx : fl (wd t 65536) = x) (hy : fl (65536 * ct t) = y) : Calls Try.prog 45 #[v] w fun e w' => e = .returned (.complex .f64 x y) ∧ Below w.heap.size w w' := by
  subst hx
  subst hy
  exact Measure_is w h hd
theorem Common_at {s t : T} {u v : Value} {x y : Nat} (w : World) (ds : s.depth ≤ 16) (dt : t.depth ≤ 16) (hs : IDV w s u) (ht : IDV w t v) (hx : fl (wd (s.both t) 65536) = x) (hy : fl (65536 * ct (s.both t)) = y) :
    Calls Try.prog 46 #[u, v] w fun e w' => e = .returned (.complex .f64 x y) ∧ Below w.heap.size w w' := by
  subst hx
  subst hy
  exact Common_is w ds dt hs ht
theorem rwide_at {xs : List (Nat × Nat)} {base n : Nat} {v : Value} (w : World) (h : RS w base v xs) (hn : wsum xs = n) (hs : n < 2 ^ 50) (hl : xs.length ≤ 1000000) : Calls Try.prog 48 #[v] w fun e w' => e = .returned (.int .u64 (n : Int)) ∧ Below w.heap.size w w' := by
  subst hn
  exact rwide_any w h (by omega) hl
theorem is_at {n x : Nat} (w : World) (hn : n < 2 ^ 50) (hx : fl n = x) : Calls Try.prog 47 #[.float .f64 x, .int .u64 (n : Int)] w fun e w' => e = .returned (.bool true) ∧ Below w.heap.size w w' := by
  subst hx
  exact is_any w (by omega)
end Go.Proofs.Ytigkjmfkpmehlaa
