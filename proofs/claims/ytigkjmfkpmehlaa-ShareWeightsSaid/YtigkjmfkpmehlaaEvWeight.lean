/- kinfolkref03.Weight. (Printed by wip/ids/evweight.py.) -/
import Derived.Test.YtigkjmfkpmehlaaEvMake
import Derived.Test.YtigkjmfkpmehlaaEvOwn
namespace Go.Proofs.Ytigkjmfkpmehlaa
open Go.RowKit

theorem rl_any {t s : T} {v : Value} (w : World) (h : RV w t v) (hs : t.left = s) : Calls Try.prog 80 #[v] w fun e w' => ∃ p, e = .returned p ∧ RV w' s p ∧ Below w.heap.size w w' := by
  subst hs
  cases t with
  | z =>
    have H := Lib.hid h
    obtain ⟨b, pl, pr, rfl, hn⟩ := h
    have c0 := hn.c0
    clear hn
    go_enter Try.func80, Try.ntmps80
    go_wp2_with fail
    go_ret
    exact ⟨_, rfl, H.out, Below.refl _ _⟩
  | o =>
    have H := Lib.hid h
    obtain ⟨b, pl, pr, rfl, hn⟩ := h
    have c0 := hn.c0
    clear hn
    go_enter Try.func80, Try.ntmps80
    go_wp2_with fail
    go_ret
    exact ⟨_, rfl, H.out, Below.refl _ _⟩
  | n l r =>
    obtain ⟨b, pl, pr, rfl, hn, hl, hr⟩ := h
    have HL := Lib.hid hl
    have c0 := hn.c0
    have c1 := hn.c1
    clear hn hl hr
    go_enter Try.func80, Try.ntmps80
    go_wp2_with fail
    go_ret
    exact ⟨_, rfl, HL.out, Below.refl _ _⟩
theorem rr_any {t s : T} {v : Value} (w : World) (h : RV w t v) (hs : t.right = s) : Calls Try.prog 82 #[v] w fun e w' => ∃ p, e = .returned p ∧ RV w' s p ∧ Below w.heap.size w w' := by
  subst hs
  cases t with
  | z =>
    have H := Lib.hid h
    obtain ⟨b, pl, pr, rfl, hn⟩ := h
    have c0 := hn.c0
    clear hn
    go_enter Try.func82, Try.ntmps82
    go_wp2_with fail
    go_ret
    exact ⟨_, rfl, H.out, Below.refl _ _⟩
  | o =>
    have H := Lib.hid h
    obtain ⟨b, pl, pr, rfl, hn⟩ := h
    have c0 := hn.c0
    clear hn
    go_enter Try.func82, Try.ntmps82
    go_wp2_with fail
    go_ret
    exact ⟨_, rfl, H.out, Below.refl _ _⟩
  | n l r =>
    obtain ⟨b, pl, pr, rfl, hn, hl, hr⟩ := h
    have HL := Lib.hid hr
    have c0 := hn.c0
    have c1 := hn.c2
    clear hn hl hr
    go_enter Try.func82, Try.ntmps82
    go_wp2_with fail
    go_ret
    exact ⟨_, rfl, HL.out, Below.refl _ _⟩
theorem ret2_u64 {a b c d : Int} (h : a = c) (k : b = d) : Ending.returned (.tuple #[.int .u64 a, .int .u64 b]) = .returned (.tuple #[.int .u64 c, .int .u64 d]) := by rw [h, k]
theorem rw_z {v u : Value} {W : Int} (w : World) (h : RV w .z u) : Calls Try.prog 54 #[v, u, .int .u64 W] w fun x w' => x = .returned (.tuple #[.int .u64 0, .int .u64 0]) ∧ Below w.heap.size w w' := by
  obtain ⟨b, pl, pr, rfl, hn⟩ := h
  have c0 := hn.c0
  clear hn
  go_enter Try.func54, Try.ntmps54
  go_wp2_with fail
  exact bodyPost_ret (v := .tuple #[.int .u64 0, .int .u64 0]) (by simp [results, go_sem, *]) rfl ⟨rfl, Below.refl _ _⟩
set_option maxHeartbeats 800000 in
theorem rw_o {n W S : Nat} {v u : Value} (w : World) (he : REV w (.lf n) v) (h : RV w .o u) (hS : n * W = S) (hs : S < 1000000000000) : Calls Try.prog 54 #[v, u, .int .u64 (W : Int)] w fun x w' => x = .returned (.tuple #[.int .u64 (S : Int), .int .u64 (n : Int)]) ∧ Below w.heap.size w w' := by
  obtain ⟨b, rfl, hn⟩ := he
  obtain ⟨g, pl, pr, rfl, hm⟩ := h
  have d0 := hn.c0
  have d1 := hn.c1
  have c0 := hm.c0
  have s1 : IntKind.u64.wrap ((n : Int) * (W : Int)) = (S : Int) := by
    have e : (n : Int) * (W : Int) = (S : Int) := by rw [← hS, Int.natCast_mul]
    rw [e]
    exact u64_in (by omega) (by omega)
  clear hn hm hS hs
  go_enter Try.func54, Try.ntmps54
  go_upto_region 4 with (fail)
  go_quiet (fail)
  go_wp2_with fail
  exact bodyPost_ret (v := .tuple #[.int .u64 (S : Int), .int .u64 (n : Int)]) (by simp [results, go_sem, *]) rfl ⟨rfl, bdrewN (Below.refl _ _) _⟩
def RwOk (d : Nat) : Prop := ∀ (e : Ev) (i : T) (v u : Value) (W S R : Nat) (w : World), e.depth ≤ d → i.depth ≤ d → e.top ≤ 1048576 → W = 2 ^ d → wS d e i = S → wT d e i = R → REV w e v → RV w i u →
  Calls Try.prog 54 #[v, u, .int .u64 (W : Int)] w fun x w' => x = .returned (.tuple #[.int .u64 (S : Int), .int .u64 (R : Int)]) ∧ Below w.heap.size w w'
set_option maxRecDepth 100000 in
set_option maxHeartbeats 3200000 in
theorem rw_more {d : Nat} {e : Ev} {i : T} {v u : Value} {W S R : Nat} (w : World) (ih : RwOk d) (hd : d + 1 ≤ 16) (de : e.depth ≤ d + 1) (di : i.depth ≤ d + 1) (he : e.top ≤ 1048576) (hW : W = 2 ^ (d + 1)) (hS : wS (d + 1) e i = S) (hR : wT (d + 1) e i = R) (hv : REV w e v) (hu : RV w i u)
    (hno : (i.isO = true ∧ e.isL = false) ∨ (∃ x y, i = .n x y)) :
    Calls Try.prog 54 #[v, u, .int .u64 (W : Int)] w fun x w' => x = .returned (.tuple #[.int .u64 (S : Int), .int .u64 (R : Int)]) ∧ Below w.heap.size w w' := by
  have hp := Nat.two_pow_pos d
  have hp16 : 2 ^ d ≤ 2 ^ 15 := Nat.pow_le_pow_right (by omega) (by omega)
  have e2 : 2 ^ (d + 1) = 2 ^ d + 2 ^ d := by rw [Nat.pow_succ]; omega
  rw [wS_half] at hS
  rw [wT_half] at hR
  have ld := Ev.left_depth de
  have li := left_depth di
  have lt := Ev.left_top e
  obtain ⟨SA, hSA⟩ : ∃ n, wS d e.left i.left = n := ⟨_, rfl⟩
  obtain ⟨SB, hSB⟩ : ∃ n, wS d e.right i.right = n := ⟨_, rfl⟩
  obtain ⟨TA, hTA⟩ : ∃ n, wT d e.left i.left = n := ⟨_, rfl⟩
  obtain ⟨TB, hTB⟩ : ∃ n, wT d e.right i.right = n := ⟨_, rfl⟩
  have bA := wS_le d e.left i.left
  have bB := wS_le d e.right i.right
  have bA' : e.left.top * 2 ^ d ≤ 1048576 * 2 ^ 15 := Nat.mul_le_mul (by omega) hp16
  have bB' : e.right.top * 2 ^ d ≤ 1048576 * 2 ^ 15 := Nat.mul_le_mul (by omega) hp16
  rw [hSA, hSB] at hS
  rw [hTA, hTB] at hR
  rw [hSA] at bA
  rw [hSB] at bB
  obtain ⟨V, hV⟩ : ∃ V, 2 ^ d = V := ⟨_, rfl⟩
  have IL := Lib.hid (fun (v u : Value) (wx : World) (h1 : REV wx e.left v) (h2 : RV wx i.left u) => ih e.left i.left v u V SA TA wx ld.1 li.1 (by omega) hV.symm hSA hTA h1 h2)
  have IR := Lib.hid (fun (v u : Value) (wx : World) (h1 : REV wx e.right v) (h2 : RV wx i.right u) => ih e.right i.right v u V SB TB wx ld.2 li.2 (by omega) hV.symm hSB hTB h1 h2)
  have HEL := Lib.hid (fun (wx : World) (hb : Below w.heap.size w wx) => rleftE_any wx (REV.below hb hv) (by omega) rfl)
  have HER := Lib.hid (fun (wx : World) (hb : Below w.heap.size w wx) => rrightE_any wx (REV.below hb hv) (by omega) rfl)
  have HTL := Lib.hid (fun (wx : World) (hb : Below w.heap.size w wx) => rl_any wx (RV.below hb hu) rfl)
  have HTR := Lib.hid (fun (wx : World) (hb : Below w.heap.size w wx) => rr_any wx (RV.below hb hu) rfl)
  have w1 : IntKind.u64.wrap ((W : Int) / 2) = (V : Int) := by rw [u64_in (by omega) (by omega)]; omega
  have w2 : (W : Int) / 2 = (V : Int) := by omega
  have w3 : (W : Int).tdiv 2 = (V : Int) := by rw [Int.tdiv_eq_ediv_of_nonneg (by omega)]; omega
  have w4 : IntKind.u64.wrap (V : Int) = (V : Int) := u64_in (by omega) (by omega)
  have s1 : IntKind.u64.wrap ((SA : Int) + (SB : Int)) = (SA : Int) + (SB : Int) := u64_in (by omega) (by omega)
  have hSS := Lib.hid (show (SA : Int) + (SB : Int) = (S : Int) by omega)
  have hcmp : ((TA : Int) < (TB : Int) ∧ Hid ((TB : Int) = (R : Int))) ∨ (¬ (TA : Int) < (TB : Int) ∧ Hid ((TA : Int) = (R : Int))) := by
    have e : Nat.max TA TB = max TA TB := rfl
    by_cases h : TA < TB
    · exact .inl ⟨by omega, Lib.hid (by omega)⟩
    · exact .inr ⟨by omega, Lib.hid (by omega)⟩
  obtain ⟨b, pl, pr, rfl, hn, hg⟩ := hv.view
  obtain ⟨g, ql, qr, rfl, hm⟩ := hu.shape
  have d1 := hn.c1
  have c0 := hm.c0
  have hno' : (i.kind = 1 ∧ ∃ p, pl = some ⟨p, 0, none⟩) ∨ i.kind = 2 := by
    rcases hno with ⟨h1, h2⟩ | ⟨x, y, rfl⟩
    · left
      cases i with
      | z => simp [T.isO] at h1
      | n _ _ => simp [T.isO] at h1
      | o =>
        refine ⟨rfl, ?_⟩
        cases e with
        | lf n => simp [Ev.isL] at h2
        | nd n x y =>
          obtain ⟨p, q, h, _⟩ := hg
          exact ⟨p, h⟩
    · exact .inr rfl
  have hb := Below.refl w.heap.size w
  clear hp hp16 e2 hS hR ld li lt hSA hSB hTA hTB bA bB bA' bB' hV hn hm hg hno hv hu ih de di he hW
  rcases hcmp with ⟨hlt, HR⟩ | ⟨hlt, HR⟩
  all_goals
    rcases hno' with ⟨hk, p, rfl⟩ | hk
    all_goals
      rw [hk] at c0
      clear hk
      go_enter Try.func54, Try.ntmps54
      go_wp2_with (first
        | (go_at_call 79; (with_reducible refine Calls.mono (HEL.out _ hb) ?_); rintro x wn ⟨p1, rfl, hv, hkk⟩; have hb := hb.trans (hkk.mono hb.size); have HE1 := Lib.hid hv; clear hv hkk)
        | (go_at_call 80; (with_reducible refine Calls.mono (HTL.out _ hb) ?_); rintro x wn ⟨p2, rfl, hv, hkk⟩; have hb := hb.trans (hkk.mono hb.size); have HE1 := Lib.hid (HE1.out.below hkk); have HT1 := Lib.hid hv; clear hv hkk)
        | (go_at_call 54; (with_reducible refine Calls.mono (IL.out _ _ _ HE1.out HT1.out) ?_); rintro x wn ⟨rfl, hkk⟩; have hb := hb.trans (hkk.mono hb.size); clear hkk HE1 HT1)
        | (go_at_call 81; (with_reducible refine Calls.mono (HER.out _ hb) ?_); rintro x wn ⟨p3, rfl, hv, hkk⟩; have hb := hb.trans (hkk.mono hb.size); have HE2 := Lib.hid hv; clear hv hkk)
        | (go_at_call 82; (with_reducible refine Calls.mono (HTR.out _ hb) ?_); rintro x wn ⟨p4, rfl, hv, hkk⟩; have hb := hb.trans (hkk.mono hb.size); have HE2 := Lib.hid (HE2.out.below hkk); have HT2 := Lib.hid hv; clear hv hkk)
        | (go_at_call 54; (with_reducible refine Calls.mono (IR.out _ _ _ HE2.out HT2.out) ?_); rintro x wn ⟨rfl, hkk⟩; have hb := hb.trans (hkk.mono hb.size); clear hkk))
      first
        | exact bodyPost_ret (v := .tuple #[.int .u64 ((SA : Int) + (SB : Int)), .int .u64 (TB : Int)]) (by simp [results, go_sem, *]) rfl ⟨ret2_u64 hSS.out HR.out, hb⟩
        | exact bodyPost_ret (v := .tuple #[.int .u64 ((SA : Int) + (SB : Int)), .int .u64 (TA : Int)]) (by simp [results, go_sem, *]) rfl ⟨ret2_u64 hSS.out HR.out, hb⟩
theorem rw_ok : ∀ d, d ≤ 16 → RwOk d
  | 0, _ => by
    intro e i v u W S R w de di he hW hS hR hv hu
    cases i with
    | z =>
      subst hS
      subst hR
      exact rw_z w hu
    | o =>
      cases e with
      | lf n =>
        rw [wT_o] at hR
        subst hR
        refine rw_o w hv hu ?_ ?_
        · rw [hW, ← hS]; simp [wS, T.isO, Ev.base]
        · simp only [wS, T.isO, Ev.base, if_true] at hS
          simp only [Ev.top] at he
          omega
      | nd n x y => simp [Ev.depth] at de
    | n l r => simp [T.depth] at di
  | d + 1, hd => by
    intro e i v u W S R w de di he hW hS hR hv hu
    cases i with
    | z =>
      subst hS
      subst hR
      exact rw_z w hu
    | o =>
      cases e with
      | lf n =>
        rw [wS_o] at hS
        rw [wT_o] at hR
        subst hR
        have hp16 : 2 ^ (d + 1) ≤ 2 ^ 16 := Nat.pow_le_pow_right (by omega) hd
        have hm : n * 2 ^ (d + 1) ≤ 1048576 * 2 ^ 16 := Nat.mul_le_mul he hp16
        exact rw_o w hv hu (by rw [hW]; exact hS) (by omega)
      | nd n x y => exact rw_more w (rw_ok d (by omega)) hd de di he hW hS hR hv hu (.inl ⟨rfl, rfl⟩)
    | n l r => exact rw_more w (rw_ok d (by omega)) hd de di he hW hS hR hv hu (.inr ⟨_, _, rfl⟩)
end Go.Proofs.Ytigkjmfkpmehlaa
