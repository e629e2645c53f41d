/- The walk of IdDeep. -/
import Derived.Test.YtigkjmfkpmehlaaAwake
namespace Go.Proofs.Ytigkjmfkpmehlaa
open Go.RowKit

/-- One part at each depth. -/
def T.chain : T → Bool
  | .z => false
  | .o => true
  | .n l r => (l.isZ && r.chain) || (r.isZ && l.chain)
theorem T.isZ_eq {t : T} (h : t.isZ = true) : t = .z := by cases t <;> simp_all [T.isZ]
theorem T.chain_isZ {t : T} (h : t.chain = true) : t.isZ = false := by cases t <;> simp_all [T.chain, T.isZ]
theorem pair_z_l {t : T} (h : t.isZ = false) : T.pair t .z = .n t .z := by simp [T.pair, h, T.isO]
theorem pair_z_r {t : T} (h : t.isZ = false) : T.pair .z t = .n .z t := by simp [T.pair, h, T.isO]
theorem T.chain_split : ∀ {t : T}, t.chain = true → t.split.1.depth = t.depth + 1 ∧ t.split.2.depth = t.depth + 1 ∧ t.split.1.isZ = false ∧ t.split.2.isZ = false
  | .z, h => by simp [T.chain] at h
  | .o, _ => by decide
  | .n l r, h => by
    simp only [T.chain, Bool.or_eq_true, Bool.and_eq_true] at h
    by_cases hl : l.isZ = true
    · obtain rfl := T.isZ_eq hl
      have hr : r.chain = true := by simpa [T.isZ, T.chain] using h
      obtain ⟨h1, h2, h3, h4⟩ := T.chain_split hr
      simp only [T.split, T.isZ, if_true]
      rw [pair_z_r h3, pair_z_r h4]
      simp only [T.depth]
      exact ⟨by omega, by omega, by trivial, by trivial⟩
    · obtain ⟨hz, hc⟩ : r.isZ = true ∧ l.chain = true := by simpa [hl] using h
      obtain rfl := T.isZ_eq hz
      obtain ⟨h1, h2, h3, h4⟩ := T.chain_split hc
      simp only [T.split]
      rw [if_neg hl, if_pos hz, pair_z_l h3, pair_z_l h4]
      simp only [T.depth]
      exact ⟨by omega, by omega, by trivial, by trivial⟩
/-- What a step of IdDeep makes. -/
def JT (k : Nat) (tj : T) (e : Int) : Prop := (k < 16 ∧ e = 0 ∧ tj.depth = k + 1 ∧ tj.chain = true) ∨ (16 ≤ k ∧ e = 3 ∧ tj = .z)
theorem JT_l {t : T} {k : Nat} (hd : t.depth = min k 16) (hc : t.chain = true) : JT k (pairR t .z).1 (pairR t .z).2 := by
  unfold pairR
  rw [pair_z_l (T.chain_isZ hc)]
  have h : (T.n t .z).depth = 1 + t.depth := by simp [T.depth]
  rw [h]
  by_cases hk : k < 16
  · rw [if_pos (by omega)]
    exact .inl ⟨hk, rfl, by rw [h]; omega, by simp [T.chain, T.isZ, hc]⟩
  · rw [if_neg (by omega)]
    exact .inr ⟨by omega, rfl, rfl⟩
theorem JT_r {t : T} {k : Nat} (hd : t.depth = min k 16) (hc : t.chain = true) : JT k (pairR .z t).1 (pairR .z t).2 := by
  unfold pairR
  rw [pair_z_r (T.chain_isZ hc)]
  have h : (T.n .z t).depth = 1 + t.depth := by simp [T.depth]
  rw [h]
  by_cases hk : k < 16
  · rw [if_pos (by omega)]
    exact .inl ⟨hk, rfl, by rw [h]; omega, by simp [T.chain, T.isZ, hc]⟩
  · rw [if_neg (by omega)]
    exact .inr ⟨by omega, rfl, rfl⟩
theorem split_end {t : T} {d : Nat} (hd : t.depth = min d 16) (hc : t.chain = true) : ∃ a b e, splitR t = (a, b, e) ∧ (d < 16 ∧ e = 0 ∨ 16 ≤ d ∧ e = 3) := by
  obtain ⟨h1, h2, _, _⟩ := T.chain_split hc
  unfold splitR
  rw [h1, h2]
  by_cases hk : d < 16
  · rw [if_pos (by omega)]
    exact ⟨_, _, _, rfl, .inl ⟨hk, rfl⟩⟩
  · rw [if_neg (by omega)]
    exact ⟨_, _, _, rfl, .inr ⟨by omega, rfl⟩⟩

def DeepRel (w : World) (E d : Nat) (u20 : Value) (wr : World) : Prop :=
  ∃ (k : Nat) (t : T) (o : Bool) (q : Option Addr), k ≤ d ∧ u20 = .int .i64 (k : Int) ∧ t.depth = min k 16 ∧ t.chain = true ∧ Bx wr E o q ∧ IDV wr t (.agg #[.bool o, .pointer q]) ∧ Below w.heap.size w wr
/-- Behind the first Pair of a round (and behind the second): the id as it was, what was made. -/
def DeepJ (w : World) (E k : Nat) (t : T) (o : Bool) (q : Option Addr) (s8 s9 : Value) (wx : World) : Prop :=
  ∃ (J : Nat) (tj : T) (e : Int) (x : Bool) (p : Option Addr), s8 = .pointer (some ⟨J, 0, none⟩) ∧ s9 = .int .i64 e ∧ JT k tj e ∧ Bx wx J x p ∧ IDV wx tj (.agg #[.bool x, .pointer p]) ∧ Bx wx E o q ∧ IDV wx t (.agg #[.bool o, .pointer q]) ∧
    Below w.heap.size w wx ∧ w.heap.size ≤ J ∧ J ≠ E

theorem depth_is {t : T} {v : Value} {m : Nat} (w : World) (h : IDV w t v) (hm : t.depth = m) (hd : t.depth ≤ 1000000) : Calls Try.prog 20 #[v] w fun e w' => e = .returned (.int .i64 (m : Int)) ∧ Below w.heap.size w w' := by
  subst hm
  exact depth_any w h hd
theorem zero_is (w : World) : Calls Try.prog 21 #[] w fun e w' => e = .returned (.agg #[.bool false, .pointer none]) ∧ Below w.heap.size w w' := by
  refine Calls.mono (zero_any w) ?_
  rintro e w' ⟨v, rfl, rfl, hk⟩
  exact ⟨rfl, hk⟩
theorem DeepJ.new {w W : World} {E k : Nat} {t tj : T} {o x : Bool} {q p : Option Addr} {e : Int} (hj : JT k tj e) (HJ : IDV W tj (.agg #[.bool x, .pointer p])) (b1 : Bx W E o q) (hi : IDV W t (.agg #[.bool o, .pointer q])) (hb : Below w.heap.size w W) :
    DeepJ w E k t o q (.pointer (some ⟨W.heap.size, 0, none⟩)) (.int .i64 e) (W.alloc (.cells #[.bool x, .pointer p] 31)) :=
  ⟨W.heap.size, tj, e, x, p, rfl, rfl, hj, Bx.new W x p, HJ.alloc _, b1.alloc _, hi.alloc _, hb.alloc hb.size _, hb.size, b1.ne⟩
theorem DeepJ.put {w W : World} {E k X : Nat} {t tj : T} {o x c : Bool} {q p d : Option Addr} {e : Int} (hj : JT k tj e) (HJ : IDV W tj (.agg #[.bool x, .pointer p])) (b1 : Bx W E o q) (hi : IDV W t (.agg #[.bool o, .pointer q])) (hb : Below w.heap.size w W) (bx : Bx W X c d) (h1 : w.heap.size ≤ X) (h2 : X ≠ E) :
    DeepJ w E k t o q (.pointer (some ⟨X, 0, none⟩)) (.int .i64 e) ((W.setCell ⟨X, 0, none⟩ (.bool x)).setCell ⟨X, 1, none⟩ (.pointer p)) :=
  have k1 := Kp.put bx x p
  ⟨X, tj, e, x, p, rfl, rfl, hj, bx.put x p, HJ.kp k1, b1.far (Ne.symm h2) x p, hi.kp k1, bput hb h1 x p, h1, h2⟩

set_option maxHeartbeats 4000000 in
theorem deep_any (a n : Int) (w : World) (ha0 : 0 ≤ a) (ha1 : a < 65536) (hn0 : 0 ≤ n) (hn1 : n < 256) : Calls Try.prog 5 #[.int .u16 a, .int .u8 n] w fun e w' => e = .returned (.bool true) ∧ Below w.heap.size w w' := by
  obtain ⟨d, hd⟩ : ∃ d : Nat, n.tmod 18 = (d : Int) := ⟨(n.tmod 18).toNat, by rw [Int.tmod_eq_emod_of_nonneg hn0]; omega⟩
  have hd18 : d < 18 := by rw [Int.tmod_eq_emod_of_nonneg hn0] at hd; omega
  have hd' := hd
  rw [Int.tmod_eq_emod_of_nonneg hn0] at hd'
  have hb := Below.refl w.heap.size w
  go_enter Try.func5, Try.ntmps5
  go_upto_region 4 with (first
    | (go_at_call 17; refine Calls.mono (awake_any _) ?_; rintro e wn ⟨rfl, hk⟩; have hb := hb.trans (hk.mono hb.size); clear hk)
    | (go_at_call 18; refine Calls.mono (one_any _) ?_; rintro e wn ⟨v, rfl, rfl, hk⟩; have hb := hb.trans (hk.mono hb.size); clear hk))
  have b1 := Bx.new wn true none
  have hE0 : w.heap.size ≤ wn.heap.size := hb.size
  have hb := hb.alloc hb.size (.cells #[.bool true, .pointer none] 31)
  generalize wn.alloc (.cells #[.bool true, .pointer none] 31) = wz at *
  obtain ⟨E, eE⟩ : ∃ E, wn.heap.size = E := ⟨_, rfl⟩
  rw [eE] at b1 hE0 ⊢
  go_wp2_with fail
  go_loopw [20] (fun u20 wr => DeepRel w E d u20 wr) (fun u20 _ => d - (intOf u20).toNat)
  case atStart => exact ⟨0, .o, true, none, by omega, rfl, rfl, rfl, b1, rfl, hb⟩
  case round =>
    clear b1 hb
    obtain ⟨k, t, o, q, hk, rfl, hdt, hct, b1, hi, hb⟩ := hrel
    have HI := Lib.hid hi
    clear hi
    have c10 := b1.c0
    have c11 := b1.c1
    by_cases hlt : k < d
    · have ht1 : t.depth ≤ 10000 := by omega
      have ht0 : T.z.depth ≤ 10000 := by simp [T.depth]
      go_upto_region 8 with (fail)
      have hb0 := hb
      have b10 := b1
      have HI0 := HI
      have hb := bdrew hb
      have b1 := b1.drew
      have HI := Lib.hid HI.out.drew
      have m0 : wr.heap.size ≠ E := b10.ne
      have ex0 : w.heap.size ≤ wr.heap.size := hb0.size
      go_cut [8, 9] (fun s8 s9 wx => DeepJ w E k t o q s8 s9 wx)
      case first =>
        go_region_held3 (fun w' => w'.cell? ⟨E, 0, none⟩ = some (.bool o) ∧ w'.cell? ⟨E, 1, none⟩ = some (.pointer q)) (with_reducible first
      | exact ⟨b1.c0, b1.c1⟩
      | (refine (fun h => ⟨Bx.c0 h, Bx.c1 h⟩ : Bx _ E o q → _) ?_
         repeat (first | exact b1 | exact b10 | refine Bx.drew ?_ | refine Bx.alloc ?_ _ | refine Bx.far ?_ (by first | assumption | exact Ne.symm (by assumption) | (intro hh; (try simp only [asz, ssz] at hh); omega)) _ _)))
          (first
          | (go_at_call 21; with_reducible first
        | (refine Calls.mono (zero_is _) ?_; rintro e wn ⟨rfl, hkk⟩; have hb := hb.trans (hkk.mono hb.size); have b1 := b1.below hkk; have HI := Lib.hid (HI.out.below hkk); (try have bx1 := bx1.below hkk); clear hkk; have m0 := b1.ne; (try (have cx10 := bx1.c0; have cx11 := bx1.c1; have fx10 := bx1.f0; have fx11 := bx1.f1; have lx1 := bx1.lt; have nx1 := bx1.ne)))
        | (have bx1 := Bx.drew (new_of (n := wr.heap.size) hb0 rfl); have hb := bdrew (hb0.alloc hb0.size (.cells #[.bool false, .pointer none] 31)); have b1 := (b10.alloc (.cells #[.bool false, .pointer none] 31)).drew; have HI := Lib.hid (HI0.out.alloc (.cells #[.bool false, .pointer none] 31)).drew; refine Calls.mono (zero_is _) ?_; rintro e wn ⟨rfl, hkk⟩; have hb := hb.trans (hkk.mono hb.size); have b1 := b1.below hkk; have HI := Lib.hid (HI.out.below hkk); (try have bx1 := bx1.below hkk); clear hkk; have m0 := b1.ne; (try (have cx10 := bx1.c0; have cx11 := bx1.c1; have fx10 := bx1.f0; have fx11 := bx1.f1; have lx1 := bx1.lt; have nx1 := bx1.ne))))
          | (go_at_call 26; with_reducible first
        | (refine Calls.mono (Pair_any _ HI.out (IDV.zero _) ht1 ht0) ?_; rintro e wn ⟨v, rfl, hv, hkk⟩; obtain ⟨oJ, qJ, rfl, hoJ⟩ := hv.shape'; have HJ := Lib.hid hv; clear hv; have hb := hb.trans (hkk.mono hb.size); have b1 := b1.below hkk; have HI := Lib.hid (HI.out.below hkk); (try have bx1 := bx1.below hkk); clear hkk; have m0 := b1.ne; (try (have cx10 := bx1.c0; have cx11 := bx1.c1; have fx10 := bx1.f0; have fx11 := bx1.f1; have lx1 := bx1.lt; have nx1 := bx1.ne)))
        | (have bx1 := new_of (n := wn.heap.size) hb rfl; have ex1 : wn.heap.size ≠ E := b1.ne; have hx1 : w.heap.size ≤ wn.heap.size := hb.size; have hb := hb.alloc hb.size (.cells #[.bool false, .pointer none] 31); have b1 := b1.alloc (.cells #[.bool false, .pointer none] 31); have HI := Lib.hid (HI.out.alloc (.cells #[.bool false, .pointer none] 31)); refine Calls.mono (Pair_any _ HI.out (IDV.zero _) ht1 ht0) ?_; rintro e wn ⟨v, rfl, hv, hkk⟩; obtain ⟨oJ, qJ, rfl, hoJ⟩ := hv.shape'; have HJ := Lib.hid hv; clear hv; have hb := hb.trans (hkk.mono hb.size); have b1 := b1.below hkk; have HI := Lib.hid (HI.out.below hkk); (try have bx1 := bx1.below hkk); clear hkk; have m0 := b1.ne; (try (have cx10 := bx1.c0; have cx11 := bx1.c1; have fx10 := bx1.f0; have fx11 := bx1.f1; have lx1 := bx1.lt; have nx1 := bx1.ne)))))
        all_goals
          go_wp2_with fail
          go_meet
          with_reducible first
            | exact DeepJ.new (JT_l hdt hct) HJ.out b1 HI.out hb
            | exact DeepJ.put (JT_l hdt hct) HJ.out b1 HI.out hb bx1 (by assumption) (by assumption)
      case rest =>
        clear hb b1 HI hb0 b10 HI0 m0 c10 c11
        obtain ⟨J, tj, e, x, p, rfl, rfl, hj, bj, hJ, b1, hi, hb, hx, hJE⟩ := hcut
        have HI := Lib.hid hi
        have HJ := Lib.hid hJ
        have c10 := b1.c0
        have c11 := b1.c1
        clear hi hJ
        go_upto_if 33 with (fail)
        go_cut [9] (fun s9 wx => DeepJ w E k t o q (.pointer (some ⟨J, 0, none⟩)) s9 wx)
        case first =>
          by_cases h33 : ((a / 2 ^ k).tmod 2 == 1) = true
          · rw [h33]
            clear h33
            go_upto_region 10 with (fail)
            have hb := bdrew hb
            have b1 := b1.drew
            have bj := bj.drew
            have HI := Lib.hid HI.out.drew
            have hEJ := Ne.symm hJE
            go_region_held3 (fun w' => w'.cell? ⟨E, 0, none⟩ = some (.bool o) ∧ w'.cell? ⟨E, 1, none⟩ = some (.pointer q)) (with_reducible first
                | exact ⟨b1.c0, b1.c1⟩
                | (refine (fun h => ⟨Bx.c0 h, Bx.c1 h⟩ : Bx _ E o q → _) ?_
                   repeat (first | exact b1 | refine Bx.drew ?_ | refine Bx.far ?_ (by first | assumption | exact Ne.symm (by assumption)) _ _)))
              (first
              | (go_at_call 21; refine Calls.mono (zero_is _) ?_; rintro e wn ⟨rfl, hkk⟩; have hb := hb.trans (hkk.mono hb.size); have b1 := b1.below hkk; have bj := bj.below hkk; have HI := Lib.hid (HI.out.below hkk); clear hkk; have cj0 := bj.c0; have cj1 := bj.c1; have fj0 := bj.f0; have fj1 := bj.f1)
              | (go_at_call 26; refine Calls.mono (Pair_any _ (IDV.zero _) HI.out ht0 ht1) ?_; rintro e wn ⟨v, rfl, hv, hkk⟩; obtain ⟨oJ, qJ, rfl, hoJ⟩ := hv.shape'; have HJ := Lib.hid hv; clear hv; have hb := hb.trans (hkk.mono hb.size); have b1 := b1.below hkk; have bj := bj.below hkk; have HI := Lib.hid (HI.out.below hkk); clear hkk; have cj0 := bj.c0; have cj1 := bj.c1; have fj0 := bj.f0; have fj1 := bj.f1))
            all_goals
              go_wp2_with fail
              go_meet
              exact DeepJ.put (JT_r hdt hct) HJ.out b1 HI.out hb bj hx hJE
          · rw [Bool.eq_false_iff.2 h33]
            clear h33
            go_wp2_with fail
            go_meet
            exact ⟨J, tj, e, x, p, rfl, rfl, hj, bj, HJ.out, b1, HI.out, hb, hx, hJE⟩
        case rest =>
          clear hb b1 HI c10 c11 HJ bj hj
          obtain ⟨J', tj, e, x, p, hJJ, rfl, hj, bj, hJ, b1, hi, hb, _, _⟩ := hcut
          simp only [Value.pointer.injEq, Option.some.injEq, Addr.mk.injEq, and_true] at hJJ
          subst hJJ
          have HI := Lib.hid hi
          have HJ := Lib.hid hJ
          clear hi hJ
          have c10 := b1.c0
          have c11 := b1.c1
          have f10 := b1.f0
          have f11 := b1.f1
          have cj0 := bj.c0
          have cj1 := bj.c1
          have hEJ := Ne.symm hJE
          rcases hj with ⟨hk16, rfl, hjd, hjc⟩ | ⟨hk16, rfl, rfl⟩
          · have hkd : decide ((k : Int) < 16) = true := by simp; omega
            go_wp2_with fail
            go_roundw
            case rel => exact ⟨k + 1, tj, x, p, by omega, by go_num, by omega, hjc, b1.put x p, HJ.out.kp (Kp.put b1 x p), bput hb (by omega) x p⟩
            case measure => simp [intOf]; omega
          · have hkd : decide ((k : Int) < 16) = false := by simp; omega
            go_wp2_with (go_at_call 24; refine Calls.mono (isZero_is _ HJ.out (rfl : _ = true)) ?_; rintro e wn ⟨rfl, hkk⟩; have hb := hb.trans (hkk.mono hb.size); have b1 := b1.below hkk; have HI := Lib.hid (HI.out.below hkk); clear hkk)
            go_roundw
            case rel => exact ⟨k + 1, t, o, q, by omega, by go_num, by omega, hct, b1, HI.out, hb⟩
            case measure => simp [intOf]; omega
    · obtain ⟨sa, sb, e, hs, he⟩ := split_end (d := d) (t := t) (by omega) hct
      have HS := Lib.hid hs
      clear hs
      have hdd : t.depth = min d 16 := by omega
      rcases he with ⟨hd16, rfl⟩ | ⟨hd16, rfl⟩
      · have hm : t.depth = d := by omega
        have hg : decide ((16 : Int) ≤ (d : Int)) = false := by simp; omega
        go_upto_region 17 with (go_at_call 19; refine Calls.mono (split_is _ HI.out (by omega) HS.out) ?_; rintro e wn ⟨v1, v2, rfl, hv1, hv2, hkk⟩; obtain ⟨o2, q2, rfl, ho2⟩ := hv1.shape'; obtain ⟨o3, q3, rfl, ho3⟩ := hv2.shape'; have hb := hb.trans (hkk.mono hb.size); have b1 := b1.below hkk; have HI := Lib.hid (HI.out.below hkk); clear hkk hv1 hv2)
        have HI := Lib.hid ((HI.out.alloc (.cells #[.bool o2, .pointer q2] 31)).alloc (.cells #[.bool o3, .pointer q3] 31))
        have b1 := (b1.alloc (.cells #[.bool o2, .pointer q2] 31)).alloc (.cells #[.bool o3, .pointer q3] 31)
        have hb := (hb.alloc hb.size (.cells #[.bool o2, .pointer q2] 31)).alloc (by simp only [asz]; have := hb.size; omega) (.cells #[.bool o3, .pointer q3] 31)
        generalize (wn.alloc (.cells #[.bool o2, .pointer q2] 31)).alloc (.cells #[.bool o3, .pointer q3] 31) = wz at *
        have c10 := b1.c0
        have c11 := b1.c1
        go_wp2_with (go_at_call 20; refine Calls.mono (depth_is _ HI.out hm (by omega)) ?_; rintro e wn ⟨rfl, hkk⟩; have hb := hb.trans (hkk.mono hb.size); clear hkk)
        all_goals
          go_ret
          exact ⟨by first | trivial | (simp; omega), hb⟩
      · have hm : t.depth = 16 := by omega
        have hg : decide ((16 : Int) ≤ (d : Int)) = true := by simp; omega
        go_upto_region 17 with (go_at_call 19; refine Calls.mono (split_is _ HI.out (by omega) HS.out) ?_; rintro e wn ⟨v1, v2, rfl, hv1, hv2, hkk⟩; obtain ⟨o2, q2, rfl, ho2⟩ := hv1.shape'; obtain ⟨o3, q3, rfl, ho3⟩ := hv2.shape'; have hb := hb.trans (hkk.mono hb.size); have b1 := b1.below hkk; have HI := Lib.hid (HI.out.below hkk); clear hkk hv1 hv2)
        have HI := Lib.hid ((HI.out.alloc (.cells #[.bool o2, .pointer q2] 31)).alloc (.cells #[.bool o3, .pointer q3] 31))
        have b1 := (b1.alloc (.cells #[.bool o2, .pointer q2] 31)).alloc (.cells #[.bool o3, .pointer q3] 31)
        have hb := (hb.alloc hb.size (.cells #[.bool o2, .pointer q2] 31)).alloc (by simp only [asz]; have := hb.size; omega) (.cells #[.bool o3, .pointer q3] 31)
        generalize (wn.alloc (.cells #[.bool o2, .pointer q2] 31)).alloc (.cells #[.bool o3, .pointer q3] 31) = wz at *
        have c10 := b1.c0
        have c11 := b1.c1
        go_wp2_with (go_at_call 20; refine Calls.mono (depth_is _ HI.out hm (by omega)) ?_; rintro e wn ⟨rfl, hkk⟩; have hb := hb.trans (hkk.mono hb.size); clear hkk)
        all_goals
          go_ret
          exact ⟨by first | trivial | (simp; omega), hb⟩
end Go.Proofs.Ytigkjmfkpmehlaa
