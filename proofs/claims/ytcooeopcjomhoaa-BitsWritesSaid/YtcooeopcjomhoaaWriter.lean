/- The bit writer's NewWriter, Num, Len, Bytes; bytes.Clone. -/
import Derived.Test.YtcooeopcjomhoaaPut
namespace Go.Proofs.Ytcooeopcjomhoaa
open Go.RowKit Plain

theorem newWriter_any (w : World) : Calls Try.prog 9 #[] w fun e w' => e = .returned (.pointer (some ⟨w.heap.size, 0, none⟩)) ∧ w.alloc (.cells #[.slice none 0 0, .int .i64 0] 59) = w' := by
  go_enter Try.func9, Try.ntmps9
  go_wp2
  go_ret
  exact ⟨rfl, rfl⟩

theorem len_nil (w : World) : Calls Try.prog 12 #[.pointer none] w fun e w' => e = .returned (.int .i64 0) ∧ w = w' := by
  go_enter Try.func12, Try.ntmps12
  go_wp2
  go_ret
  exact ⟨rfl, rfl⟩
theorem len_any {g : Nat} {q : Option Nat} {P : List Int} {m : Nat} (w : World) (h : WX w g q P m) : Calls Try.prog 12 #[.pointer (some ⟨g, 0, none⟩)] w fun e w' => e = .returned (.int .i64 (m : Int)) ∧ w = w' := by
  obtain ⟨v, hb, _, _, _⟩ := h
  have hc1 : w.cell? ⟨g, 1, none⟩ = some (.int .i64 (m : Int)) := blk_cell hb 1
  go_enter Try.func12, Try.ntmps12
  go_wp2
  go_ret
  exact ⟨rfl, rfl⟩

/-- A slice of bytes that reads as ys. -/
def RB (w : World) (v : Value) (ys : List Int) : Prop :=
  (v = .slice none 0 0 ∧ ys = []) ∨ ∃ b off cap, v = .slice (some ⟨b, off, none⟩) ys.length cap ∧ ys.length ≤ cap ∧ b < w.heap.size ∧ ∀ j u, ys[j]? = some u → w.cell? ⟨b, off + j, none⟩ = some (.int .u8 u)

theorem RB.below {w w' : World} {v : Value} {ys : List Int} (h : RB w v ys) {B : Nat} (hb : Below B w w') (hB : ∀ k, v.ownBlock = some k → k < B) : RB w' v ys := by
  rcases h with h | ⟨b, off, cap, rfl, hc, hlt, hr⟩
  · exact .inl h
  · have hlt' := hB b rfl
    exact .inr ⟨b, off, cap, rfl, hc, by have := hb.size; omega, fun j u hj => (hb.cell (p := ⟨b, off + j, none⟩) hlt').trans (hr j u hj)⟩
theorem RB.of_own {w : World} {base : Nat} {v : Value} {ys : List Int} (h : w.ownsRow base 5 1 v ys.length (ys.map (Value.int .u8))) : RB w v ys := by
  rcases h.2 with ⟨rfl, h0⟩ | ⟨g, cap, cur, rfl, _, hh, h1, _⟩
  · exact .inl ⟨rfl, List.eq_nil_of_length_eq_zero h0⟩
  · refine .inr ⟨g, 0, cap, rfl, h1, blk_lt hh, fun j u hj => ?_⟩
    have hc := h.cellAt j (by have := (List.getElem?_eq_some_iff.1 hj).1; omega)
    rw [List.getElem?_map, hj] at hc
    simpa using hc

theorem clone_nil (w : World) : Calls Try.prog 19 #[.slice none 0 0] w fun e w' => e = .returned (.slice none 0 0) ∧ w = w' := by
  have hr := fun (wx : World) => Lib.run_eql_slice_nil (P := Try.prog) wx 33 5 none 0 0 0 0 Try.underlying33
  go_enter Try.func19, Try.ntmps19
  go_wp2
  go_ret
  exact ⟨rfl, rfl⟩

set_option maxHeartbeats 400000 in
theorem clone_some {b off cap : Nat} {ys : List Int} (w : World) (hl : ys.length ≤ 140737488355328) (hb : b < w.heap.size) (hcells : ∀ j u, ys[j]? = some u → w.cell? ⟨b, off + j, none⟩ = some (.int .u8 u)) :
    Calls Try.prog 19 #[.slice (some ⟨b, off, none⟩) ys.length cap] w fun e w' => ∃ v', e = .returned v' ∧ w'.ownsRow w.heap.size 5 1 v' ys.length (ys.map (Value.int .u8)) ∧ Below w.heap.size w w' := by
  have hr := fun (wx : World) => Lib.run_eql_slice_nil (P := Try.prog) wx 33 5 (some ⟨b, off, none⟩) ys.length cap 0 0 Try.underlying33
  obtain ⟨i0, hi, hz0, hz1, hz2⟩ := info_parts Try.info5
  have hown := World.ownsRow_made (base := w.heap.size) (e := 5) (size := 1) w #[] 0 (Nat.le_refl _) (Nat.zero_le _) rfl
  have hnews : ∀ j u, (ys.map (Value.int .u8))[j]? = some u → (w.alloc (.cells #[] 5)).cell? ((⟨b, off, none⟩ : Addr).add j) = some u := fun j u hj => by
    rw [List.getElem?_map] at hj
    obtain ⟨x, hx, rfl⟩ := Option.map_eq_some_iff.1 hj
    rw [Addr.add_lit]
    exact (World.cell?_of_block (Below.heap_alloc _ _ _ hb)).trans (hcells j x hx)
  go_enter Try.func19, Try.ntmps19
  go_wp2_with (at_builtin; refine wpList_append_own_at _ rfl _ _ 33 rfl w.heap.size 5 i0 (.int .u8 0) 1 1 Try.underlying33 hi hz0 hz1 hz2 rfl (by decide) _ _ _ rfl hown ⟨b, off, none⟩ ys.length cap (ys.map (Value.int .u8)) rfl (by simp) hnews (fun x hx => by simp at hx; obtain ⟨z, _, rfl⟩ := hx; rfl) (by unfold maxLen; omega) (by omega) (by simp) ?_; intro v' w1 hown' hgrow _ hat)
  go_ret
  refine ⟨_, rfl, by simpa using hown', ?_⟩
  exact ((Below.refl _ _).alloc (Nat.le_refl _) _).grown hgrow (by simp) (fun k hk => Nat.le_of_eq (by have hk' : (Value.slice (some ⟨w.heap.size, 0, none⟩) 0 0).ownBlock = some k := hk; simpa [Value.ownBlock] using hk'))

theorem clone_any {v : Value} {ys : List Int} (w : World) (hl : ys.length ≤ 140737488355328) (h : RB w v ys) :
    Calls Try.prog 19 #[v] w fun e w' => ∃ v', e = .returned v' ∧ w'.ownsRow w.heap.size 5 1 v' ys.length (ys.map (Value.int .u8)) ∧ Below w.heap.size w w' := by
  rcases h with ⟨rfl, rfl⟩ | ⟨b, off, cap, rfl, hc, hb, hr⟩
  · exact (clone_nil w).mono fun e w' ⟨he, hw⟩ => ⟨_, he, by subst hw; exact World.ownsRow_nil _ _ _ _, by subst hw; exact Below.refl _ _⟩
  · exact clone_some w hl hb hr

theorem bytes_nil (w : World) : Calls Try.prog 15 #[.pointer none] w fun e w' => e = .returned (.slice none 0 0) ∧ w = w' := by
  go_enter Try.func15, Try.ntmps15
  go_wp2
  go_ret
  exact ⟨rfl, rfl⟩
theorem bytes_any {g : Nat} {q : Option Nat} {P : List Int} {m : Nat} (w : World) (hl : P.length ≤ 140737488355328) (h : WX w g q P m) :
    Calls Try.prog 15 #[.pointer (some ⟨g, 0, none⟩)] w fun e w' => ∃ v', e = .returned v' ∧ w'.ownsRow w.heap.size 5 1 v' P.length (P.map (Value.int .u8)) ∧ Below w.heap.size w w' := by
  obtain ⟨v, hb, _, _, hown⟩ := h
  have hrb := RB.of_own hown
  obtain ⟨aa, nn, cc, rfl⟩ := own_slice hown
  have hc1 : w.cell? ⟨g, 0, none⟩ = some (.slice aa nn cc) := blk_cell hb 0
  go_enter Try.func15, Try.ntmps15
  go_wp2_with (go_at_call 19; refine (clone_any _ hl hrb).mono ?_; rintro e w' ⟨v', rfl, hown', hbel⟩)
  go_ret
  exact ⟨_, rfl, hown', hbel⟩

/-- The bits of a number in few bits, from b bits on. -/
def numFrom (n : Int) : Nat → Nat → List Bool
  | 0, b => false :: bitsOf n b
  | f + 1, b => if b < 64 ∧ 2 ^ b ≤ n then true :: numFrom (n - 2 ^ b) f (b + 1) else false :: bitsOf n b
def numBits (n : Int) : List Bool := numFrom n 62 2

theorem bitsOf_one (n : Int) : bitsOf n 1 = [n % 2 == 1] := by simp [bitsOf]
theorem put_one (b : Bool) (g : Nat) (q : Option Nat) (l : List Bool) (w : World) (hw : WR w g q l) (hl : l.length < 100000) :
    Calls Try.prog 13 #[.pointer (some ⟨g, 0, none⟩), .int .u64 (bv b), .int .i64 1] w fun e w' => e = .returned (.tuple #[]) ∧ ∃ q', WR w' g q' (l ++ [b]) ∧ Fr w w' g q ∧ Mv w q q' :=
  (put_any (bv b) 1 g q l w hw (by cases b <;> decide) (by cases b <;> decide) hl).mono fun e w' ⟨he, q', h1, h2, h3⟩ => ⟨he, q', by
    have e1 : (min (max (1 : Int) 0) 64).toNat = 1 := by decide
    rw [e1, bitsOf_one] at h1
    have e2 : (bv b % 2 == 1) = b := by cases b <;> decide
    rw [e2] at h1
    exact h1, h2, h3⟩
theorem put_0 (g : Nat) (q : Option Nat) (l : List Bool) (w : World) (hw : WR w g q l) (hl : l.length < 100000) :
    Calls Try.prog 13 #[.pointer (some ⟨g, 0, none⟩), .int .u64 0, .int .i64 1] w fun e w' => e = .returned (.tuple #[]) ∧ ∃ q', WR w' g q' (l ++ [false]) ∧ Fr w w' g q ∧ Mv w q q' := put_one false g q l w hw hl
theorem put_1 (g : Nat) (q : Option Nat) (l : List Bool) (w : World) (hw : WR w g q l) (hl : l.length < 100000) :
    Calls Try.prog 13 #[.pointer (some ⟨g, 0, none⟩), .int .u64 1, .int .i64 1] w fun e w' => e = .returned (.tuple #[]) ∧ ∃ q', WR w' g q' (l ++ [true]) ∧ Fr w w' g q ∧ Mv w q q' := put_one true g q l w hw hl
theorem put_nat (n : Int) (k : Nat) (g : Nat) (q : Option Nat) (l : List Bool) (w : World) (hw : WR w g q l) (h0 : 0 ≤ n) (h1 : n < 18446744073709551616) (hk : k ≤ 64) (hl : l.length < 100000) :
    Calls Try.prog 13 #[.pointer (some ⟨g, 0, none⟩), .int .u64 n, .int .i64 (k : Int)] w fun e w' => e = .returned (.tuple #[]) ∧ ∃ q', WR w' g q' (l ++ bitsOf n k) ∧ Fr w w' g q ∧ Mv w q q' :=
  (put_any n k g q l w hw h0 h1 hl).mono fun e w' ⟨he, q', h1, h2, h3⟩ => ⟨he, q', by
    have e1 : (min (max (k : Int) 0) 64).toNat = k := by omega
    rw [e1] at h1
    exact h1, h2, h3⟩

theorem put_64 (n : Int) (g : Nat) (q : Option Nat) (l : List Bool) (w : World) (hw : WR w g q l) (h0 : 0 ≤ n) (h1 : n < 18446744073709551616) (hl : l.length < 100000) :
    Calls Try.prog 13 #[.pointer (some ⟨g, 0, none⟩), .int .u64 n, .int .i64 64] w fun e w' => e = .returned (.tuple #[]) ∧ ∃ q', WR w' g q' (l ++ bitsOf n 64) ∧ Fr w w' g q ∧ Mv w q q' := put_nat n 64 g q l w hw h0 h1 (by omega) hl
theorem num_some {n : Int} {c : Nat} (h : 2 ^ c ≤ n) : 0 < n / 2 ^ c := by
  have h2 : (0 : Int) < 2 ^ c := Int.pow_pos (by decide)
  have := Int.ediv_le_ediv h2 h
  rw [Int.ediv_self (by omega)] at this
  omega
theorem num_none {n : Int} {c : Nat} (h0 : 0 ≤ n) (h : ¬ 2 ^ c ≤ n) : n / 2 ^ c = 0 := Int.ediv_eq_zero_of_lt h0 (by omega)

def NumRel (w : World) (g : Nat) (q : Option Nat) (l L : List Bool) (n b : Value) (wr : World) : Prop :=
  ∃ (f c : Nat) (n' : Int) (l' : List Bool) (q' : Option Nat), f + c = 64 ∧ 2 ≤ c ∧ n = .int .u64 n' ∧ b = .int .i64 (c : Int) ∧ 0 ≤ n' ∧ n' < 18446744073709551616 ∧ WR wr g q' l' ∧ l'.length ≤ l.length + c ∧ l' ++ numFrom n' f c = L ∧ Fr w wr g q ∧ Mv w q q'

set_option maxHeartbeats 400000 in
theorem wnum_any (n : Int) (g : Nat) (q : Option Nat) (l : List Bool) (w : World) (hw : WR w g q l) (h0 : 0 ≤ n) (h1 : n < 18446744073709551616) (hl : l.length < 90000) :
    Calls Try.prog 10 #[.pointer (some ⟨g, 0, none⟩), .int .u64 n] w fun e w' => e = .returned (.tuple #[]) ∧ ∃ q', WR w' g q' (l ++ numBits n) ∧ Fr w w' g q ∧ Mv w q q' := by
  go_enter Try.func10, Try.ntmps10
  go_wp2_with fail
  go_loopw [1, 4] (fun n' b wr => NumRel w g q l (l ++ numBits n) n' b wr) (fun _ b _ => (64 - intOf b).toNat)
  case atStart => exact ⟨62, 2, n, l, q, rfl, by omega, rfl, rfl, h0, h1, hw, by omega, rfl, Fr.refl _ _ _, .inl rfl⟩
  case round =>
    obtain ⟨f, c, n', l', q', hfc, hc2, rfl, rfl, hn0, hn1, hwr, hll, hL, hfr, hmv⟩ := hrel
    by_cases hb : c < 64 ∧ 2 ^ c ≤ n'
    · obtain ⟨f, rfl⟩ : ∃ f', f = f' + 1 := ⟨f - 1, by omega⟩
      obtain ⟨hb1, hb2⟩ := hb
      have hd : 0 < n' / 2 ^ c := num_some hb2
      have hp : (0 : Int) < 2 ^ c := Int.pow_pos (by decide)
      go_wp2_with (go_at_call 13; refine (put_1 g q' l' wr hwr (by omega)).mono ?_; rintro e w' ⟨rfl, q1, hwr1, hfr1, hmv1⟩)
      go_roundw
      case rel =>
        exact ⟨f, c + 1, n' - 2 ^ c, l' ++ [true], q1, by omega, by omega, rfl, by go_num, by omega, by omega, hwr1, by simp; omega, by rw [← hL]; simp [numFrom, hb1, hb2], hfr.trans hmv hfr1, Mv.trans hfr.size hmv hmv1⟩
      case measure => simp [intOf]; omega
    · have hL2 : l' ++ [false] ++ bitsOf n' c = l ++ numBits n := by
        rw [← hL]
        cases f with
        | zero => simp [numFrom]
        | succ f => rw [numFrom, if_neg hb]; simp
      have HL2 := Lib.hid hL2
      clear hL2 hL
      have hb' : c = 64 ∨ (c < 64 ∧ n' / 2 ^ c = 0) := by
        by_cases h : c < 64
        · exact .inr ⟨h, num_none hn0 (fun h2 => hb ⟨h, h2⟩)⟩
        · exact .inl (by omega)
      clear hb
      rcases hb' with rfl | ⟨hb1, hb2⟩
      · go_wp2_with fail
        refine (put_0 g q' l' wr hwr (by omega)).mono ?_
        rintro e w1 ⟨rfl, q1, hwr1, hfr1, hmv1⟩
        go_wp2_with fail
        refine (put_64 n' g q1 (l' ++ [false]) w1 hwr1 hn0 hn1 (by simp; omega)).mono ?_
        rintro e w2 ⟨rfl, q2, hwr2, hfr2, hmv2⟩
        rw [HL2.out] at hwr2
        go_wp2_with fail
        have hf := (hfr.trans hmv hfr1).trans (Mv.trans hfr.size hmv hmv1) hfr2
        exact bodyPost_end (v := .tuple #[]) (by simp [results, Try.results10, go_sem]) rfl ⟨rfl, q2, hwr2, hf, Mv.trans (hfr.trans hmv hfr1).size (Mv.trans hfr.size hmv hmv1) hmv2⟩
      · go_wp2_with fail
        refine (put_0 g q' l' wr hwr (by omega)).mono ?_
        rintro e w1 ⟨rfl, q1, hwr1, hfr1, hmv1⟩
        go_wp2_with fail
        refine (put_nat n' c g q1 (l' ++ [false]) w1 hwr1 hn0 hn1 (by omega) (by simp; omega)).mono ?_
        rintro e w2 ⟨rfl, q2, hwr2, hfr2, hmv2⟩
        rw [HL2.out] at hwr2
        go_wp2_with fail
        have hf := (hfr.trans hmv hfr1).trans (Mv.trans hfr.size hmv hmv1) hfr2
        exact bodyPost_end (v := .tuple #[]) (by simp [results, Try.results10, go_sem]) rfl ⟨rfl, q2, hwr2, hf, Mv.trans (hfr.trans hmv hfr1).size (Mv.trans hfr.size hmv hmv1) hmv2⟩

set_option maxHeartbeats 400000 in
/-- On nil: nothing. -/
theorem wnum_nil (n : Int) (w : World) (h0 : 0 ≤ n) (h1 : n < 18446744073709551616) :
    Calls Try.prog 10 #[.pointer none, .int .u64 n] w fun e w' => e = .returned (.tuple #[]) ∧ w = w' := by
  go_enter Try.func10, Try.ntmps10
  go_wp2_with fail
  go_loopw [1, 4] (fun n' b wr => w = wr ∧ ∃ (c : Nat) (x : Int), c ≤ 64 ∧ n' = .int .u64 x ∧ b = .int .i64 (c : Int) ∧ 0 ≤ x ∧ x < 18446744073709551616) (fun _ b _ => (64 - intOf b).toNat)
  case atStart => exact ⟨rfl, 2, n, by omega, rfl, rfl, h0, h1⟩
  case round =>
    obtain ⟨rfl, c, x, hc, rfl, rfl, hx0, hx1⟩ := hrel
    by_cases hb : c < 64 ∧ 2 ^ c ≤ x
    · obtain ⟨hb1, hb2⟩ := hb
      have hd : 0 < x / 2 ^ c := num_some hb2
      have hp : (0 : Int) < 2 ^ c := Int.pow_pos (by decide)
      go_wp2_with (go_at_call 13; refine (put_nil _ _ _).mono ?_; rintro e w' ⟨rfl, rfl⟩)
      go_roundw
      case rel => exact ⟨by simp, c + 1, x - 2 ^ c, by omega, rfl, by go_num, by omega, by omega⟩
      case measure => simp [intOf]; omega
    · have hb' : c = 64 ∨ (c < 64 ∧ x / 2 ^ c = 0) := by
        by_cases h : c < 64
        · exact .inr ⟨h, num_none hx0 (fun h2 => hb ⟨h, h2⟩)⟩
        · exact .inl (by omega)
      clear hb
      rcases hb' with rfl | ⟨hb1, hb2⟩
      all_goals
        go_wp2_with (go_at_call 13; refine (put_nil _ _ _).mono ?_; rintro e w' ⟨rfl, rfl⟩)
        exact bodyPost_end (v := .tuple #[]) (by simp [results, Try.results10, go_sem]) rfl ⟨rfl, rfl⟩

end Go.Proofs.Ytcooeopcjomhoaa
