/- The law BitsNums answers true. -/
import Derived.Test.YtcooeopcjomhoaaAwake
import Derived.Test.YtcooeopcjomhoaaNumsLaw
namespace Go.Proofs.Ytcooeopcjomhoaa
open Go.RowKit Plain

theorem WX.fr {w w' : World} {g g' : Nat} {q q' : Option Nat} {P : List Int} {m : Nat} (h : WX w g q P m) (hf : Fr w w' g' q') (h1 : g ≠ g') (h2 : some g ≠ q') (h3 : ∀ k, q = some k → k ≠ g' ∧ some k ≠ q') : WX w' g q P m := by
  have hlt := h.lt
  obtain ⟨v, hb, e2, e3, h4⟩ := h
  refine ⟨v, (hf.block g hlt.1 h1 h2).trans hb, e2, e3, ⟨h4.1, ?_⟩⟩
  rcases h4.2 with h | ⟨c, cap, cur, rfl, hbase, hh, r⟩
  · exact .inl h
  · have hc := h3 c e2.symm
    exact .inr ⟨c, cap, cur, rfl, hbase, (hf.block c (blk_lt hh) hc.1 hc.2).trans hh, r⟩

/-- Two writers, new: their blocks. -/
theorem two_new (w : World) : WR ((w.alloc (.cells #[.slice none 0 0, .int .i64 0] 59)).alloc (.cells #[.slice none 0 0, .int .i64 0] 59)) w.heap.size none [] ∧
    WR ((w.alloc (.cells #[.slice none 0 0, .int .i64 0] 59)).alloc (.cells #[.slice none 0 0, .int .i64 0] 59)) (w.heap.size + 1) none [] := by
  have h := WR.new (w.alloc (.cells #[.slice none 0 0, .int .i64 0] 59))
  have e : (w.alloc (.cells #[.slice none 0 0, .int .i64 0] 59)).heap.size = w.heap.size + 1 := by simp
  rw [e] at h
  refine ⟨?_, h⟩
  exact WX.below (WR.new w) (B := w.heap.size + 1) ((Below.refl _ _).alloc (by simp) _) (by omega) (fun k hk => by simp at hk)

/-- A slice of bools that reads as ys. -/
theorem bools_cell {w : World} {B : Nat} {v : Value} {ys : List Bool} (h : w.ownsRow B 4 1 v ys.length (ys.map Value.bool)) (hn : 0 < ys.length) :
    ∃ c cap, v = .slice (some ⟨c, 0, none⟩) ys.length cap ∧ ys.length ≤ cap ∧ cap ≤ maxLen ∧ B ≤ c ∧ c < w.heap.size ∧ ∀ i, i < ys.length → w.cell? ⟨c, i, none⟩ = some (.bool (ys.getD i false)) := by
  obtain ⟨c, cap, rfl, h1, h2⟩ := own_open h hn
  have hl := h.lt c rfl
  refine ⟨c, cap, rfl, h1, h2, hl.1, hl.2, fun i hi => ?_⟩
  have := h.cellAt i (by omega)
  rw [this, List.getElem?_map, List.getElem?_eq_getElem hi, List.getD_eq_getElem?_getD, List.getElem?_eq_getElem hi]
  rfl

theorem numBits_pos (n : Int) : 0 < (numBits n).length := by
  have := numFrom_len_ge 62 2 n
  unfold numBits
  omega
theorem numBits_le (n : Int) : (numBits n).length ≤ 200 := by
  have : ∀ (f c : Nat) (n : Int), f + c = 64 → (numFrom n f c).length ≤ f + 65 := by
    intro f
    induction f with
    | zero => intro c n h; simp [numFrom, bitsOf_length]; omega
    | succ f ih =>
      intro c n h
      rw [numFrom]
      split
      · have := ih (c + 1) (n - 2 ^ c) (by omega)
        simp; omega
      · simp [bitsOf_length]; omega
  have := this 62 2 n rfl
  unfold numBits
  omega

theorem below_drewN' {B : Nat} {a w : World} (h : Below B a w) (n : Nat) : Below B a (w.drewN n) := ⟨h.os, h.tape, h.output, h.size, h.block⟩
def NumsRel (A B : List Bool) (w : World) (u9 u32 : Value) (wr : World) : Prop := ∃ (i n : Nat), i ≤ A.length ∧ u9 = .bool (al A B i) ∧ u32 = .int .i64 (i : Int) ∧ wr = w.drewN n
theorem al_lt {A B : List Bool} {i : Nat} (h : al A B i = true) (hi : i < A.length) : i < B.length := by
  simp [al] at h; omega
set_option maxHeartbeats 1000000 in
theorem nums_any (a b : Int) (w : World) (ha0 : 0 ≤ a) (ha1 : a < 18446744073709551616) (hb0 : 0 ≤ b) (hb1 : b < 18446744073709551616) :
    Calls Try.prog 3 #[.int .u64 a, .int .u64 b] w fun e w' => e = .returned (.bool true) ∧ Below w.heap.size w w' := by
  go_enter Try.func3, Try.ntmps3
  go_wp2_with fail
  refine (awake_any w).mono ?_
  rintro e w0 ⟨rfl, hbw⟩
  have hbs := hbw.size
  go_wp2_with fail
  refine (newWriter_any w0).mono ?_
  rintro e w' ⟨rfl, rfl⟩
  go_wp2_with fail
  refine (newWriter_any _).mono ?_
  rintro e w' ⟨rfl, rfl⟩
  obtain ⟨hx, hy⟩ := two_new w0
  have hbw2 : Below w.heap.size w ((w0.alloc (.cells #[.slice none 0 0, .int .i64 0] 59)).alloc (.cells #[.slice none 0 0, .int .i64 0] 59)) := (hbw.alloc hbs _).alloc (by simp; omega) _
  have hs2 : w0.heap.size + 2 ≤ ((w0.alloc (.cells #[.slice none 0 0, .int .i64 0] 59)).alloc (.cells #[.slice none 0 0, .int .i64 0] 59)).heap.size := by simp
  go_wp2_with fail
  refine (wnum_any a _ _ [] _ hx ha0 ha1 (by decide)).mono ?_
  rintro e w3 ⟨rfl, q1, hx3, hf3, hm3⟩
  have hy3 := hy.fr hf3 (by omega) (by simp) (fun k hk => by simp at hk)
  have hq3 := hm3.ge (B := w0.heap.size + 2) hs2 (fun k hk => by simp at hk)
  have hbw3 := hbw2.trans (hf3.below (B := w.heap.size) (by omega) (by omega) (fun k hk => by simp at hk))
  have hs3 := Nat.le_trans hs2 hf3.size
  clear hf3 hm3 hbw2 hbw hs2
  go_wp2_with fail
  refine (wnum_any b _ _ [] _ hy3 hb0 hb1 (by decide)).mono ?_
  rintro e w4 ⟨rfl, q2, hy4, hf4, hm4⟩
  have hx4 := hx3.fr hf4 (by omega) (by simp) (fun k hk => ⟨by have := hq3 k hk; omega, by simp⟩)
  have hq4 := hm4.ge (B := w0.heap.size + 2) hs3 (fun k hk => by simp at hk)
  have hbw4 := hbw3.trans (hf4.below (B := w.heap.size) (by omega) (by omega) (fun k hk => by simp at hk))
  have hs4 := Nat.le_trans hs3 hf4.size
  clear hf4 hm4 hbw3 hx3 hy3 hx hy hs3
  rw [List.nil_append] at hx4 hy4
  go_wp2_with fail
  refine (rnum_any a w4 ha0 ha1).mono ?_
  rintro e w5 ⟨v5, rfl, hown5, hb5⟩
  have hx5 := WX.below hx4 hb5 (by have := hx4.lt.1; omega) hx4.lt.2
  have hy5 := WX.below hy4 hb5 (by have := hy4.lt.1; omega) hy4.lt.2
  have hbw5 := hbw4.trans (hb5.mono hbw4.size)
  have hs5 := Nat.le_trans hs4 hb5.size
  clear hb5 hbw4 hx4 hy4 hs4
  go_wp2_with fail
  refine (rnum_any b w5 hb0 hb1).mono ?_
  rintro e w6 ⟨v6, rfl, hown6, hb6⟩
  have hx6 := WX.below hx5 hb6 (by have := hx5.lt.1; omega) hx5.lt.2
  have hy6 := WX.below hy5 hb6 (by have := hy5.lt.1; omega) hy5.lt.2
  have hbw6 := hbw5.trans (hb6.mono hbw5.size)
  have hown5' := YtcooeopcjomhoaaW.PrintWords.own_move hown5 (w1 := w6) (fun k hk => hb6.block k (hown5.lt k hk).2)
  clear hb6 hbw5 hx5 hy5 hown5
  obtain ⟨c, cap, rfl, hc1, hc2, _, hcl, hcc⟩ := bools_cell hown5' (numBits_pos a)
  obtain ⟨d, dap, rfl, hd1, hd2, _, hdl, hdc⟩ := bools_cell hown6 (numBits_pos b)
  clear hown5' hown6 hs5 hq3 hq4 hbs
  have hA := numBits_le a
  have hB := numBits_le b
  have hlaw := al_law a b ha0 ha1 hb0 hb1
  have hlen := len_law a b
  generalize numBits a = A at *
  generalize numBits b = B at *
  go_wp2_with fail
  have HLAW := Lib.hid hlaw
  have HLEN := Lib.hid hlen
  clear hlaw hlen
  go_loopw [9, 10, 32] (fun u9 _ u32 wr => NumsRel A B w6 u9 u32 wr) (fun _ _ u32 _ => A.length - (intOf u32).toNat)
  case atStart => exact ⟨0, 0, Nat.zero_le _, by rw [al_zero], rfl, rfl⟩
  case round =>
    obtain ⟨i, n, hi, rfl, rfl, rfl⟩ := hrel
    by_cases hlt : i < A.length
    · have hca := hcc i hlt
      have HST := Lib.hid (al_succ A B i hlt)
      cases hal : al A B i with
      | false =>
        rw [hal] at HST
        clear hal
        go_wp2_with fail
        go_quiet (fail)
        go_wp2_with fail
        go_roundw
        case rel => exact ⟨i + 1, n + nq, by omega, by rw [HST.out]; rfl, by go_num, by simp⟩
        case measure => simp [intOf]; omega
      | true =>
        rw [hal] at HST
        have hib : i < B.length := al_lt hal hlt
        clear hal
        have hda := hdc i hib
        go_wp2_with fail
        go_quiet (fail)
        go_wp2_with fail
        go_roundw
        case rel => exact ⟨i + 1, n + nq, by omega, by rw [HST.out]; simp [hlt, hib], by go_num, by simp⟩
        case measure => simp [intOf]; omega
    · obtain rfl : i = A.length := by omega
      rw [HLAW.out]
      have hx7 : WX (w6.drewN n) w0.heap.size q1 (pack A) A.length := hx6
      have hy7 : WX (w6.drewN n) (w0.heap.size + 1) q2 (pack B) B.length := hy6
      have hb7 : Below w.heap.size w (w6.drewN n) := below_drewN' hbw6 n
      by_cases hab : a ≤ b
      · have hl2 := HLEN.out hab
        go_wp2_with (first | (go_at_call_of 12 (Value.pointer (some { block := w0.heap.size, off := 0 })); refine (len_any _ hx7).mono ?_; rintro e w' ⟨rfl, rfl⟩) | (go_at_call 12; refine (len_any _ hy7).mono ?_; rintro e w' ⟨rfl, rfl⟩))
        go_ret
        exact ⟨rfl, hb7⟩
      · go_wp2_with (first | (go_at_call_of 12 (Value.pointer (some { block := w0.heap.size, off := 0 })); refine (len_any _ hx7).mono ?_; rintro e w' ⟨rfl, rfl⟩) | (go_at_call 12; refine (len_any _ hy7).mono ?_; rintro e w' ⟨rfl, rfl⟩))
        go_ret
        exact ⟨rfl, hb7⟩
end Go.Proofs.Ytcooeopcjomhoaa
