/- The law BitsParts answers true. -/
import Derived.Test.YtcooeopcjomhoaaParts
namespace Go.Proofs.Ytcooeopcjomhoaa
open Go.RowKit Plain

/-- Two writers, apart, in memory of the call's own. -/
structure Two (w w' : World) (B g1 g2 : Nat) (q1 q2 : Option Nat) (l1 l2 : List Bool) : Prop where
  x : WR w' g1 q1 l1
  y : WR w' g2 q2 l2
  below : Below B w w'
  base : B ≤ w.heap.size
  b1 : B ≤ g1
  b2 : B ≤ g2
  ne : g1 ≠ g2
  h1 : ∀ k, q1 = some k → B ≤ k ∧ k ≠ g2 ∧ q2 ≠ some k
  h2 : ∀ k, q2 = some k → B ≤ k ∧ k ≠ g1
theorem Two.step1 {w w' w'' : World} {B g1 g2 : Nat} {q1 q1' q2 : Option Nat} {l1 l1' l2 : List Bool} (h : Two w w' B g1 g2 q1 q2 l1 l2) (hx : WR w'' g1 q1' l1') (hf : Fr w' w'' g1 q1) (hm : Mv w' q1 q1') : Two w w'' B g1 g2 q1' q2 l1' l2 := by
  have hs := h.below.size
  have hy := h.y.fr hf (Ne.symm h.ne) (fun e => (h.h1 g2 e.symm).2.1 rfl) (fun k hk => ⟨(h.h2 k hk).2, fun e => (h.h1 k e.symm).2.2 hk⟩)
  refine ⟨hx, hy, h.below.trans (hf.below (by have := h.base; omega) h.b1 (fun k hk => (h.h1 k hk).1)), h.base, h.b1, h.b2, h.ne, fun k hk => ?_, h.h2⟩
  rcases hm with rfl | ⟨b, rfl, hb⟩
  · exact h.h1 k hk
  · injection hk with e
    subst e
    have := h.base
    refine ⟨by omega, by have := h.y.lt.1; omega, fun e => by have := h.y.lt.2 _ e; omega⟩
theorem Two.swap {w w' : World} {B g1 g2 : Nat} {q1 q2 : Option Nat} {l1 l2 : List Bool} (h : Two w w' B g1 g2 q1 q2 l1 l2) : Two w w' B g2 g1 q2 q1 l2 l1 :=
  ⟨h.y, h.x, h.below, h.base, h.b2, h.b1, Ne.symm h.ne, fun k hk => ⟨(h.h2 k hk).1, (h.h2 k hk).2, fun e => (h.h1 k e).2.2 hk⟩, fun k hk => ⟨(h.h1 k hk).1, (h.h1 k hk).2.1⟩⟩
theorem Two.step2 {w w' w'' : World} {B g1 g2 : Nat} {q1 q2 q2' : Option Nat} {l1 l2 l2' : List Bool} (h : Two w w' B g1 g2 q1 q2 l1 l2) (hy : WR w'' g2 q2' l2') (hf : Fr w' w'' g2 q2) (hm : Mv w' q2 q2') : Two w w'' B g1 g2 q1 q2' l1 l2' :=
  (h.swap.step1 hy hf hm).swap
theorem Two.move {w w' w'' : World} {B g1 g2 : Nat} {q1 q2 : Option Nat} {l1 l2 : List Bool} (h : Two w w' B g1 g2 q1 q2 l1 l2) (hb : Below w'.heap.size w' w'') : Two w w'' B g1 g2 q1 q2 l1 l2 :=
  ⟨WX.below h.x hb h.x.lt.1 h.x.lt.2, WX.below h.y hb h.y.lt.1 h.y.lt.2, h.below.trans (hb.mono (Nat.le_trans h.base h.below.size)), h.base, h.b1, h.b2, h.ne, h.h1, h.h2⟩

theorem put_5 (n : Int) (g : Nat) (q : Option Nat) (l : List Bool) (w : World) (hw : WR w g q l) (h0 : 0 ≤ n) (h1 : n < 18446744073709551616) (hl : l.length < 100000) :
    Calls Try.prog 13 #[.pointer (some ⟨g, 0, none⟩), .int .u64 n, .int .i64 5] w fun e w' => e = .returned (.tuple #[]) ∧ ∃ q', WR w' g q' (l ++ bitsOf n 5) ∧ Fr w w' g q ∧ Mv w q q' := put_nat n 5 g q l w hw h0 h1 (by omega) hl

theorem put_sub (n : Int) (s lo g : Nat) (q : Option Nat) (l : List Bool) (w : World) (hw : WR w g q l) (h0 : 0 ≤ n) (h1 : n < 18446744073709551616) (hs : s ≤ 64) (hlo : lo ≤ s) (hl : l.length < 100000) :
    Calls Try.prog 13 #[.pointer (some ⟨g, 0, none⟩), .int .u64 n, .int .i64 ((s : Int) - (lo : Int))] w fun e w' => e = .returned (.tuple #[]) ∧ ∃ q', WR w' g q' (l ++ bitsOf n (s - lo)) ∧ Fr w w' g q ∧ Mv w q q' :=
  (put_any n ((s : Int) - lo) g q l w hw h0 h1 hl).mono fun e w' ⟨he, q', h1, h2, h3⟩ => ⟨he, q', by
    have e1 : (min (max ((s : Int) - lo) 0) 64).toNat = s - lo := by omega
    rw [e1] at h1
    exact h1, h2, h3⟩

theorem RD.below {w w' : World} {lo g : Nat} {P : List Int} {m : Nat} {e : Int} {B : Nat} (h : RD w lo g P m e) (hb : Below B w w') (hg : g < B) : RD w' lo g P m e := by
  obtain ⟨v, h1, h2, h3⟩ := h
  exact ⟨v, (hb.block g hg).trans h1, h2.below hb (fun k hk => by have := h3 k hk; omega), h3⟩
theorem RD.lt {w : World} {lo g : Nat} {P : List Int} {m : Nat} {e : Int} (h : RD w lo g P m e) : g < w.heap.size := by
  obtain ⟨v, h1, _⟩ := h
  exact blk_lt h1
theorem RD.fr {w w' : World} {lo g g' : Nat} {P : List Int} {m : Nat} {e : Int} (h : RD w lo g P m e) (hf : Fr w w' g' none) (hg : g < g' ∨ g' < lo) (hlo : lo ≤ g) : RD w' lo g P m e := by
  obtain ⟨v, h1, h2, h3⟩ := h
  refine ⟨v, (hf.block g (blk_lt h1) (by omega) (by simp)).trans h1, ?_, h3⟩
  rcases h2 with h | ⟨b, off, cap, rfl, hc, hlt, hr⟩
  · exact .inl h
  · have hk := h3 b rfl
    exact .inr ⟨b, off, cap, rfl, hc, by have := hf.size; omega, fun j u hj => (World.cell?_of_block (a := ⟨b, off + j, none⟩) (hf.block b hlt (by omega) (by simp))).trans (hr j u hj)⟩
theorem get_k {lo g : Nat} {P : List Int} {m : Nat} (k : Int) (K : Nat) (w : World) (h : RD w lo g P m 0) (hk : clampK k = K) (hP : P.length ≤ 1000000) (hb : ∀ x ∈ P, 0 ≤ x ∧ x ≤ 255) (hm : m + K ≤ 8 * P.length) :
    Calls Try.prog 17 #[.pointer (some ⟨g, 0, none⟩), .int .i64 k] w fun e' w' => e' = .returned (.int .u64 (getV P m K)) ∧ RD w' lo g P (m + K) 0 ∧ Fr w w' g none := by
  subst hk
  exact get_ok k w h hP hb hm

theorem or_comm' {a b : Int} (ha : 0 ≤ a) (ha1 : a < 2 ^ 64) (hb : 0 ≤ b) (hb1 : b < 2 ^ 64) : bits BinOp.or IntKind.u64 a b = bits BinOp.or IntKind.u64 b a := by
  obtain ⟨x, rfl⟩ := Int.eq_ofNat_of_zero_le ha
  obtain ⟨y, rfl⟩ := Int.eq_ofNat_of_zero_le hb
  have w64 : ∀ n : Int, 0 ≤ n → n < 2 ^ 64 → IntKind.u64.wrap n = n := fun n a b => by
    rw [IntKind.wrap_u64]; exact Int.emod_eq_of_lt a b
  rw [(bits_nat .u64 64 (by decide) w64 x y (by exact_mod_cast ha1) (by exact_mod_cast hb1)).2, (bits_nat .u64 64 (by decide) w64 y x (by exact_mod_cast hb1) (by exact_mod_cast ha1)).2, Nat.or_comm]
theorem parts_law (n : Int) (s lo : Nat) (hs : s ≤ 64) (hlo : lo ≤ s) (hl : lo < 64) :
    bits BinOp.or IntKind.u64 (n % 2 ^ lo) (IntKind.u64.wrap (n / 2 ^ lo % 2 ^ (s - lo) * 2 ^ lo)) = n % 2 ^ s := by
  have w64 : ∀ n : Int, 0 ≤ n → n < 2 ^ 64 → IntKind.u64.wrap n = n := fun n a b => by
    rw [IntKind.wrap_u64]; exact Int.emod_eq_of_lt a b
  have hp : (0 : Int) < 2 ^ lo := Int.pow_pos (by decide)
  have hp2 : (0 : Int) < 2 ^ (s - lo) := Int.pow_pos (by decide)
  have e : (2 : Int) ^ s = 2 ^ lo * 2 ^ (s - lo) := by rw [← Int.pow_add, show lo + (s - lo) = s by omega]
  have hs64 := pow_le hs
  have hl64 := pow_le (show lo ≤ 64 by omega)
  have a1 := Int.emod_nonneg n (show (2 : Int) ^ lo ≠ 0 by omega)
  have a2 := Int.emod_lt_of_pos n hp
  have b1 := Int.emod_nonneg (n / 2 ^ lo) (show (2 : Int) ^ (s - lo) ≠ 0 by omega)
  have b2 := Int.emod_lt_of_pos (n / 2 ^ lo) hp2
  have split : n % 2 ^ s = 2 ^ lo * (n / 2 ^ lo % 2 ^ (s - lo)) + n % 2 ^ lo := by
    have h1 := Int.mul_ediv_add_emod n (2 ^ lo)
    have h2 := Int.mul_ediv_add_emod (n / 2 ^ lo) (2 ^ (s - lo))
    have h3 : n = (2 ^ lo * (n / 2 ^ lo % 2 ^ (s - lo)) + n % 2 ^ lo) + 2 ^ lo * 2 ^ (s - lo) * (n / 2 ^ lo / 2 ^ (s - lo)) := by
      have h4 : 2 ^ lo * (n / 2 ^ lo) = 2 ^ lo * (2 ^ (s - lo) * (n / 2 ^ lo / 2 ^ (s - lo)) + n / 2 ^ lo % 2 ^ (s - lo)) := by rw [h2]
      rw [Int.mul_add, ← Int.mul_assoc] at h4
      omega
    have h5 : n % 2 ^ s = (2 ^ lo * (n / 2 ^ lo % 2 ^ (s - lo)) + n % 2 ^ lo) % 2 ^ s := by
      conv => lhs; rw [h3, e]
      rw [Int.add_mul_emod_self_left, e]
    rw [h5]
    refine Int.emod_eq_of_lt (Int.add_nonneg (Int.mul_nonneg (Int.le_of_lt hp) b1) a1) ?_
    have h6 : 2 ^ lo * (n / 2 ^ lo % 2 ^ (s - lo)) ≤ 2 ^ lo * (2 ^ (s - lo) - 1) := Int.mul_le_mul_of_nonneg_left (by omega) (Int.le_of_lt hp)
    rw [Int.mul_sub, Int.mul_one, ← e] at h6
    omega
  have hx0 : 0 ≤ n / 2 ^ lo % 2 ^ (s - lo) * 2 ^ lo := Int.mul_nonneg b1 (Int.le_of_lt hp)
  have hx1 : n / 2 ^ lo % 2 ^ (s - lo) * 2 ^ lo < 2 ^ 64 := by
    have := Int.emod_lt_of_pos n (show (0 : Int) < 2 ^ s from Int.pow_pos (by decide))
    rw [Int.mul_comm] 
    omega
  rw [w64 _ hx0 hx1, or_comm' a1 (by omega) hx0 hx1, bits_join .u64 64 (by decide) w64 lo _ _ hx0 (Int.mul_emod_left _ _) hx1 a1 a2 (by omega), split, Int.mul_comm]

set_option maxHeartbeats 1000000 in
theorem parts_any (n k a f : Int) (w : World) (hn0 : 0 ≤ n) (hn1 : n < 18446744073709551616) (hk0 : 0 ≤ k) (hk1 : k ≤ 255) (ha0 : 0 ≤ a) (ha1 : a ≤ 255) (hf0 : 0 ≤ f) (hf1 : f < 18446744073709551616) :
    Calls Try.prog 4 #[.int .u64 n, .int .u8 k, .int .u8 a, .int .u64 f] w fun e w' => e = .returned (.bool true) ∧ Below w.heap.size w w' := by
  obtain ⟨s, hs, hs64⟩ : ∃ s : Nat, k % 65 = (s : Int) ∧ s ≤ 64 := ⟨(k % 65).toNat, by omega, by omega⟩
  obtain ⟨lo, hlo, hlos⟩ : ∃ lo : Nat, a % ((s : Int) + 1) = (lo : Int) ∧ lo ≤ s := ⟨(a % ((s : Int) + 1)).toNat, by have := Int.emod_nonneg a (show (s : Int) + 1 ≠ 0 by omega); omega, by have := Int.emod_lt_of_pos a (show 0 < (s : Int) + 1 by omega); omega⟩
  go_enter Try.func4, Try.ntmps4
  go_wp2_with fail
  refine (awake_any w).mono ?_
  rintro e w0 ⟨rfl, hbw⟩
  have hbs := hbw.size
  go_wp2_with fail
  refine (newWriter_any w0).mono ?_
  rintro e w' ⟨rfl, rfl⟩
  go_wp2_with fail
  refine (newWriter_any _).mono ?_
  rintro e w' ⟨rfl, rfl⟩
  obtain ⟨hx, hy⟩ := two_new w0
  have hbw2 : Below w.heap.size w ((w0.alloc (.cells #[.slice none 0 0, .int .i64 0] 59)).alloc (.cells #[.slice none 0 0, .int .i64 0] 59)) := (hbw.alloc hbs _).alloc (by simp; omega) _
  have hs2 : w0.heap.size + 2 ≤ ((w0.alloc (.cells #[.slice none 0 0, .int .i64 0] 59)).alloc (.cells #[.slice none 0 0, .int .i64 0] 59)).heap.size := by simp
  generalize (w0.alloc (.cells #[.slice none 0 0, .int .i64 0] 59)).alloc (.cells #[.slice none 0 0, .int .i64 0] 59) = w2 at *
  have T : Two w w2 w.heap.size w0.heap.size (w0.heap.size + 1) none none [] [] := ⟨hx, hy, hbw2, Nat.le_refl _, by omega, by omega, by omega, fun k hk => by simp at hk, fun k hk => by simp at hk⟩
  clear hx hy hbw2 hs2 hbs hbw
  go_wp2_with fail
  refine (put_5 f _ _ [] _ T.x hf0 hf1 (by decide)).mono ?_
  rintro e w3 ⟨rfl, q1, hx, hf, hm⟩
  replace T := T.step1 hx hf hm
  clear hx hf hm
  go_wp2_with fail
  refine (put_5 f _ _ [] _ T.y hf0 hf1 (by decide)).mono ?_
  rintro e w4 ⟨rfl, q2, hx, hf, hm⟩
  replace T := T.step2 hx hf hm
  clear hx hf hm
  rw [List.nil_append] at T
  go_wp2_with fail
  refine (put_nat n s _ _ _ _ T.x hn0 hn1 hs64 (by rw [bitsOf_length]; omega)).mono ?_
  rintro e w5 ⟨rfl, q3, hx, hf, hm⟩
  replace T := T.step1 hx hf hm
  clear hx hf hm
  go_wp2_with fail
  have hnl0 : 0 ≤ n / 2 ^ lo := Int.ediv_nonneg hn0 (Int.pow_nonneg (by decide))
  have hnl1 := Int.ediv_le_self (2 ^ lo) hn0
  refine (put_sub _ s lo _ _ _ _ T.y hnl0 (by omega) hs64 hlos (by rw [bitsOf_length]; omega)).mono ?_
  rintro e w6 ⟨rfl, q4, hx, hf, hm⟩
  replace T := T.step2 hx hf hm
  clear hx hf hm
  go_wp2_with fail
  refine (put_nat n lo _ _ _ _ T.y hn0 hn1 (by omega) (by simp [bitsOf_length]; omega)).mono ?_
  rintro e w7 ⟨rfl, q5, hx, hf, hm⟩
  replace T := T.step2 hx hf hm
  clear hx hf hm
  have happ : bitsOf f 5 ++ bitsOf (n / 2 ^ lo) (s - lo) ++ bitsOf n lo = bitsOf f 5 ++ bitsOf n s := by
    rw [List.append_assoc, ← bitsOf_append n hn0 lo (s - lo), show s - lo + lo = s by omega]
  rw [happ] at T
  clear happ
  have hL : (bitsOf f 5 ++ bitsOf n s).length = 5 + s := by simp [bitsOf_length]
  have hP : (pack (bitsOf f 5 ++ bitsOf n s)).length ≤ 100 := by rw [pack_length, hL]; omega
  have HL := Lib.hid hL
  clear hL
  go_wp2_with fail
  refine (bytes_any w7 (by omega) T.x).mono ?_
  rintro e w8 ⟨v8, rfl, hown8, hb⟩
  replace T := T.move hb
  clear hb
  go_wp2_with fail
  refine (bytes_any w8 (by omega) T.y).mono ?_
  rintro e w9 ⟨v9, rfl, hown9, hb⟩
  have hown8' := YtcooeopcjomhoaaW.PrintWords.own_move hown8 (w1 := w9) (fun k hk => hb.block k (hown8.lt k hk).2)
  replace T := T.move hb
  clear hb hown8
  go_wp2_with fail
  refine (equal_same w9 (RB.of_own hown8') (RB.of_own hown9) (by omega)).mono ?_
  rintro e w10 ⟨rfl, n10, rfl⟩
  clear hown8' hown9
  replace T := T.move (below_drewN' (Below.refl _ _) n10)
  generalize w9.drewN n10 = wa at *
  have hx := T.x
  have hy := T.y
  unfold WR at hx hy
  rw [HL.out] at hx hy
  go_wp2_with (first | (go_at_call_of 12 (Value.pointer (some { block := w0.heap.size, off := 0 })); refine (len_any _ hx).mono ?_; rintro e w' ⟨rfl, rfl⟩) | (go_at_call_of 12 (Value.pointer (some { block := w0.heap.size + 1, off := 0 })); refine (len_any _ hy).mono ?_; rintro e w' ⟨rfl, rfl⟩))
  refine (bytes_any wa (by omega) T.x).mono ?_
  rintro e w11 ⟨v11, rfl, hown11, hb⟩
  replace T := T.move hb
  clear hb hx hy
  go_wp2_with fail
  have hs11 := T.below.size
  refine (newReader_any w11 (by omega) (RB.of_own hown11)).mono ?_
  rintro e w12 ⟨g3, rfl, hr3, hg3, hb⟩
  replace T := T.move hb
  clear hb hown11
  go_wp2_with fail
  refine (bytes_any w12 (by omega) T.x).mono ?_
  rintro e w13 ⟨v13, rfl, hown13, hb⟩
  replace T := T.move hb
  replace hr3 := hr3.below hb hr3.lt
  have hs13 := hb.size
  clear hb
  go_wp2_with fail
  have hlt3 := hr3.lt
  refine (newReader_any w13 (by omega) (RB.of_own hown13)).mono ?_
  rintro e w14 ⟨g4, rfl, hr4, hg4, hb⟩
  replace T := T.move hb
  replace hr3 := hr3.below hb hr3.lt
  clear hb hown13
  have hbw := T.below
  have hws := T.base
  have hg3b : w.heap.size ≤ g3 := by omega
  clear T
  have hPb := pack_mem (bitsOf f 5 ++ bitsOf n s)
  have hP8 : 5 + s ≤ 8 * (pack (bitsOf f 5 ++ bitsOf n s)).length := by rw [pack_length, HL.out]; omega
  have eA : getV (pack (bitsOf f 5 ++ bitsOf n s)) 0 5 = f % 32 := by
    have := getV_mid [] (bitsOf f 5) (bitsOf n s)
    rw [bitsOf_length, valOf_bitsOf f hf0] at this
    exact this
  have eB : getV (pack (bitsOf f 5 ++ bitsOf n s)) 5 s = n % 2 ^ s := by
    have := getV_mid (bitsOf f 5) (bitsOf n s) []
    rw [bitsOf_length, bitsOf_length, valOf_bitsOf n hn0, List.append_nil] at this
    exact this
  have happ : bitsOf f 5 ++ bitsOf (n / 2 ^ lo) (s - lo) ++ bitsOf n lo = bitsOf f 5 ++ bitsOf n s := by
    rw [List.append_assoc, ← bitsOf_append n hn0 lo (s - lo), show s - lo + lo = s by omega]
  have eC : getV (pack (bitsOf f 5 ++ bitsOf n s)) 5 (s - lo) = n / 2 ^ lo % 2 ^ (s - lo) := by
    have := getV_mid (bitsOf f 5) (bitsOf (n / 2 ^ lo) (s - lo)) (bitsOf n lo)
    rw [happ, bitsOf_length, bitsOf_length, valOf_bitsOf _ hnl0] at this
    exact this
  have eD : getV (pack (bitsOf f 5 ++ bitsOf n s)) (5 + (s - lo)) lo = n % 2 ^ lo := by
    have := getV_mid (bitsOf f 5 ++ bitsOf (n / 2 ^ lo) (s - lo)) (bitsOf n lo) []
    rw [List.append_nil, happ, List.length_append, bitsOf_length, bitsOf_length, bitsOf_length, valOf_bitsOf n hn0] at this
    exact this
  clear happ
  have HA := Lib.hid eA
  have HB := Lib.hid eB
  have HC := Lib.hid eC
  have HD := Lib.hid eD
  have HLAW := Lib.hid (fun h => parts_law n s lo hs64 hlos h)
  clear eA eB eC eD HL
  generalize pack (bitsOf f 5 ++ bitsOf n s) = P at *
  go_wp2_with fail
  refine (get_k 5 5 w14 hr3 (by decide) (by omega) hPb (by omega)).mono ?_
  rintro e w15 ⟨rfl, h3, hf⟩
  replace hr4 := hr4.fr hf (.inr (by omega)) (by omega)
  have hbx := hbw.trans (hf.below (B := w.heap.size) hbw.size (by omega) (by simp))
  clear hf hr3 hbw
  rw [HA.out]
  go_wp2_with fail
  refine (get_k 5 5 w15 hr4 (by decide) (by omega) hPb (by omega)).mono ?_
  rintro e w16 ⟨rfl, h4, hf⟩
  replace h3 := h3.fr hf (.inl (by omega)) (by omega)
  have hby := hbx.trans (hf.below (B := w.heap.size) hbx.size (by omega) (by simp))
  clear hf hr4 hbx
  rw [HA.out]
  rw [Nat.zero_add] at h3 h4
  go_wp2_with fail
  refine (get_k (s : Int) s w16 h3 (by unfold clampK; omega) (by omega) hPb (by omega)).mono ?_
  rintro e w17 ⟨rfl, h3', hf⟩
  replace h4 := h4.fr hf (.inr (by omega)) (by omega)
  have hbz := hby.trans (hf.below (B := w.heap.size) hby.size (by omega) (by simp))
  clear hf h3 hby
  rw [HB.out]
  go_wp2_with fail
  refine (get_k ((s : Int) - lo) (s - lo) w17 h4 (by unfold clampK; omega) (by omega) hPb (by omega)).mono ?_
  rintro e w18 ⟨rfl, h4', hf⟩
  replace h3' := h3'.fr hf (.inl (by omega)) (by omega)
  have hbx := hbz.trans (hf.below (B := w.heap.size) hbz.size (by omega) (by simp))
  clear hf h4 hbz
  rw [HC.out]
  go_wp2_with fail
  refine (get_k (lo : Int) lo w18 h4' (by unfold clampK; omega) (by omega) hPb (by omega)).mono ?_
  rintro e w19 ⟨rfl, h4, hf⟩
  replace h3' := h3'.fr hf (.inl (by omega)) (by omega)
  have hby := hbx.trans (hf.below (B := w.heap.size) hbx.size (by omega) (by simp))
  clear hf h4' hbx
  rw [HD.out]
  rw [show 5 + (s - lo) + lo = 5 + s by omega] at h4
  have HL3 := Lib.hid (fun n => left_any (w19.drewN n) (h3'.drewN n) (by omega) (by omega))
  have HL4 := Lib.hid (fun n => left_any (w19.drewN n) (h4.drewN n) (by omega) (by omega))
  have hl3 : Calls Try.prog 18 #[.pointer (some ⟨g3, 0, none⟩)] w19 fun e' w' => e' = .returned (.int .i64 ((8 * P.length - (5 + s) : Nat) : Int)) ∧ ∃ n, w' = w19.drewN n := HL3.out 0
  have HL5 := Lib.hid hl3
  clear hl3 HA HB HC HD hnl0 hnl1 hP8
  have hn2 := Int.emod_nonneg n (show (2 : Int) ^ lo ≠ 0 from Int.ne_of_gt (Int.pow_pos (by decide)))
  by_cases hl64 : lo < 64
  · have hlaw := HLAW.out hl64
    generalize n % 2 ^ s = X at *
    generalize n % 2 ^ lo = Z at *
    generalize n / 2 ^ lo % 2 ^ (s - lo) = Y at *
    have HLW := Lib.hid hlaw
    clear HLAW
    go_wp2_with fail
    refine HL5.out.mono ?_
    rintro e w' ⟨rfl, n3, rfl⟩
    go_wp2_with fail
    refine (HL4.out n3).mono ?_
    rintro e w' ⟨rfl, n4, rfl⟩
    go_wp2_with fail
    go_ret
    exact ⟨rfl, below_drewN' hby _⟩
  · obtain rfl : lo = 64 := by omega
    obtain rfl : s = 64 := by omega
    clear HLAW
    generalize n % 2 ^ 64 = X at *
    go_wp2_with fail
    refine HL5.out.mono ?_
    rintro e w' ⟨rfl, n3, rfl⟩
    go_wp2_with fail
    refine (HL4.out n3).mono ?_
    rintro e w' ⟨rfl, n4, rfl⟩
    go_wp2_with fail
    go_ret
    exact ⟨rfl, below_drewN' hby _⟩
end Go.Proofs.Ytcooeopcjomhoaa
