/- The law BitsWrites answers true. -/
import Derived.Test.YtcooeopcjomhoaaWritesLaw
import Derived.Test.YtcooeopcjomhoaaActs
namespace Go.Proofs.Ytcooeopcjomhoaa
open Go.RowKit Plain YtcooeopcjomhoaaW.PrintWords

/-- A row of bits of the call's own. -/
def LB (w : World) (B : Nat) (v : Value) (l : List Bool) : Prop := Kd.R Kd.bool 4 w B (fun _ => True) v l
theorem LB.slice {w : World} {B : Nat} {v : Value} {l : List Bool} (h : LB w B v l) : ∃ a c, v = .slice a l.length c := Kd.V_slice (Kd.R_V (base' := B) h)
theorem LB.own {w : World} {B : Nat} {v : Value} {l : List Bool} (h : LB w B v l) : w.ownsRow B 4 1 v l.length (l.map Value.bool) := Kd.own_of_R h
theorem LB.lt {w : World} {B : Nat} {v : Value} {l : List Bool} (h : LB w B v l) : ∀ k, v.ownBlock = some k → B ≤ k ∧ k < w.heap.size := h.own.lt
theorem LB.step {w w1 : World} {B : Nat} {v : Value} {l : List Bool} (h : LB w B v l) (hm : ∀ k, v.ownBlock = some k → w1.heap[k]? = w.heap[k]?) : LB w1 B v l :=
  Kd.R_mono (Kd.R_step (Kd.R_tight rfl h) (fun k hk _ => hm k hk.symm)) (fun _ _ => trivial)
theorem LB.lower {w : World} {B B' : Nat} {v : Value} {l : List Bool} (h : LB w B v l) (hb : B' ≤ B) : LB w B' v l := Kd.R_lower h hb

theorem rput_own {B : Nat} {v : Value} {l : List Bool} (n k : Int) (w : World) (h : LB w B v l) (h0 : 0 ≤ n) (h1 : n < 18446744073709551616) (hl : l.length ≤ 10000) :
    Calls Try.prog 27 #[v, .int .u64 n, .int .i64 k] w fun e w' => ∃ v', e = .returned v' ∧ LB w' w.heap.size v' (l ++ bitsOf n (clampK k)) ∧ Below w.heap.size w w' := by
  obtain ⟨A, c, rfl⟩ := h.slice
  obtain ⟨_, hc, hr⟩ := Kd.R_reads' h
  exact PBitsNums.kinfolkref05_Put.calls 65 A c l n k _ w hr hc (rput_eq l n k h0 h1 (by omega) 65 (Nat.le_refl _))
theorem rnum_own {B : Nat} {v : Value} {l : List Bool} (n : Int) (w : World) (h : LB w B v l) (h0 : 0 ≤ n) (h1 : n < 18446744073709551616) (hl : l.length ≤ 10000) :
    Calls Try.prog 11 #[v, .int .u64 n] w fun e w' => ∃ v', e = .returned v' ∧ LB w' w.heap.size v' (l ++ numBits n) ∧ Below w.heap.size w w' := by
  obtain ⟨A, c, rfl⟩ := h.slice
  exact (PBitsNums.kinfolkref05_Num.calls 224 (fun _ => True) A c l n _ w (Kd.R_V h) (rnum_eq l n h0 h1 (by omega))).mono fun _ _ ⟨v, he, hr, hb⟩ => ⟨v, he, Kd.R_mono hr (fun _ _ => trivial), hb⟩

def WritesRel (w : World) (B g : Nat) (acts : List (Int × Int × Int)) (u4 u22 : Value) (wr : World) : Prop :=
  ∃ (i : Nat) (q : Option Nat), i ≤ acts.length ∧ u22 = .int .i64 (i : Int) ∧ WR wr g q (actsBits (acts.take i)) ∧ LB wr B u4 (actsBits (acts.take i)) ∧ (∀ k, q = some k → B ≤ k ∧ u4.ownBlock ≠ some k) ∧ u4.ownBlock ≠ some g ∧ Below w.heap.size w wr

def WritesRel2 (w : World) (lo g : Nat) (acts : List (Int × Int × Int)) (P : List Int) (u69 : Value) (wr : World) : Prop :=
  ∃ i : Nat, i ≤ acts.length ∧ u69 = .int .i64 (i : Int) ∧ RD wr lo g P (actsBits (acts.take i)).length 0 ∧ Below w.heap.size w wr
/-- The first acts. -/
def Cut25 (w W : World) (acts : List (Int × Int × Int)) (s0 : Value) (wx : World) : Prop := InA w s0 acts ∧ wx = W
theorem InA.take {w : World} {b off cap n m : Nat} {acts : List (Int × Int × Int)} (h : InA w (.slice (some ⟨b, off, none⟩) n cap) acts) (hm : m = (acts.take 25).length) : InA w (.slice (some ⟨b, off, none⟩) m cap) (acts.take 25) := by
  subst hm
  rcases h with ⟨rfl, _⟩ | ⟨b', off', cap', hv, hc, hlt, hr⟩
  · exact .inl ⟨rfl, _, _, rfl⟩
  · simp only [Value.slice.injEq, Option.some.injEq, Addr.mk.injEq] at hv
    obtain ⟨⟨rfl, rfl, _⟩, _, rfl⟩ := hv
    refine .inr ⟨b, off, cap, rfl, by simp; omega, hlt, fun i hi => ?_⟩
    have hi' : i < acts.length := by simp at hi; omega
    have e : (acts.take 25).getD i (0, 0, 0) = acts.getD i (0, 0, 0) := by
      rw [List.getD_eq_getElem?_getD, List.getD_eq_getElem?_getD, List.getElem?_take, if_pos (by simp at hi; omega)]
    rw [e]
    exact hr i hi'

set_option maxHeartbeats 2000000 in
set_option maxRecDepth 100000 in
theorem writes_any (v : Value) (acts : List (Int × Int × Int)) (w : World) (ha : InA w v acts) (hal : acts.length ≤ 9223372036854775807) (had : ∀ x ∈ acts, 0 ≤ x.1 ∧ x.1 ≤ 255) (han : ∀ x ∈ acts, 0 ≤ x.2.1 ∧ x.2.1 ≤ 18446744073709551615) :
    Calls Try.prog 7 #[v] w fun e w' => e = .returned (.bool true) ∧ Below w.heap.size w w' := by
  obtain ⟨a, c, rfl⟩ := ha.slice
  go_enter Try.func7, Try.ntmps7
  go_wp2_with fail
  refine (awake_any w).mono ?_
  rintro e w0 ⟨rfl, hbw⟩
  go_wp2_with fail
  refine (newWriter_any w0).mono ?_
  rintro e w' ⟨rfl, rfl⟩
  have hx := WR.new w0
  have hb0 := hbw.alloc hbw.size (.cells #[.slice none 0 0, .int .i64 0] 59)
  have hs0 : (w0.alloc (.cells #[.slice none 0 0, .int .i64 0] 59)).heap.size = w0.heap.size + 1 := by simp
  have hws := hbw.size
  clear hbw
  generalize w0.alloc (.cells #[.slice none 0 0, .int .i64 0] 59) = W at *
  obtain ⟨g, hg⟩ : ∃ g, w0.heap.size = g := ⟨_, rfl⟩
  rw [hg] at hx hs0 hws ⊢
  clear hg w0
  go_upto_region 5 with (fail)
  go_cut [0] (fun s0 wx => Cut25 w W (acts.take 25) s0 wx)
  case first =>
    have HA := Lib.hid ha
    clear hx hb0 hs0 hws
    rcases ha with ⟨h, _⟩ | ⟨b, off, cap, hv, hcap, hblt, _⟩
    · subst h
      go_wp2_with fail
      all_goals
        go_meet
        exact ⟨.inl ⟨rfl, _, _, rfl⟩, rfl⟩
    · simp only [Value.slice.injEq, true_and] at hv
      obtain ⟨rfl, rfl⟩ := hv
      by_cases h25 : acts.length ≤ 25
      · go_wp2_with fail
        go_meet
        exact ⟨HA.out.take (by simp; omega), rfl⟩
      · go_wp2_with fail
        go_meet
        exact ⟨HA.out.take (by simp; omega), rfl⟩
  case rest =>
    obtain ⟨hin, rfl⟩ := hcut
    have had' : ∀ x ∈ acts.take 25, 0 ≤ x.1 ∧ x.1 ≤ 255 := fun x hx => had x (List.mem_of_mem_take hx)
    have han' : ∀ x ∈ acts.take 25, 0 ≤ x.2.1 ∧ x.2.1 ≤ 18446744073709551615 := fun x hx => han x (List.mem_of_mem_take hx)
    have hA : (acts.take 25).length ≤ 25 := List.length_take_le _ _
    clear ha hal had han
    generalize acts.take 25 = A at *
    obtain ⟨a0, c0, rfl⟩ := hin.slice
    have HA := Lib.hid hin
    clear hin
    go_wp2_with fail
    go_loopw [4, 22] (fun u4 u22 wr => WritesRel w g g A u4 u22 wr) (fun _ u22 _ => A.length - (intOf u22).toNat)
    case atStart => exact ⟨0, none, Nat.zero_le _, rfl, hx, Kd.R_nil _ _ _ _ _, fun k hk => by simp at hk, by simp [Value.ownBlock], hb0⟩
    case round =>
      obtain ⟨i, q, hi, rfl, hx, hl, hq, hg4, hbel⟩ := hrel
      have hll : (actsBits (A.take i)).length ≤ 5000 := by
        have := actsBits_le (A.take i)
        have h2 : (A.take i).length ≤ A.length := by simp; omega
        omega
      by_cases hin : i < A.length
      · rcases HA.out with ⟨h, _⟩ | ⟨b, off, cap, hv, hcap, hblt, hcells⟩
        · rw [h] at hin; simp at hin
        simp only [Value.slice.injEq, true_and] at hv
        obtain ⟨rfl, rfl⟩ := hv
        obtain ⟨h0, h1, h2⟩ := hcells i hin
        have hmem : A.getD i (0, 0, 0) ∈ A := by rw [List.getD_eq_getElem?_getD, List.getElem?_eq_getElem hin]; exact List.getElem_mem _
        have hd := had' _ hmem
        have hn := han' _ hmem
        have HS := Lib.hid (actsBits_succ A i hin)
        generalize A.getD i (0, 0, 0) = act at *
        obtain ⟨d, nn, k⟩ := act
        have c0 := (hbel.cell (p := ⟨b, off + i * 3, none⟩) hblt).trans h0
        have c1 := (hbel.cell (p := ⟨b, off + i * 3 + 1, none⟩) hblt).trans h1
        have c2 := (hbel.cell (p := ⟨b, off + i * 3 + 2, none⟩) hblt).trans h2
        clear hcells h0 h1 h2
        dsimp only at c0 c1 c2 hd hn
        have hx0 := WX.below hx ((Below.refl wr.heap.size wr).alloc (Nat.le_refl _) (.cells #[.int .u8 d, .int .u64 nn, .int .i64 k] 46)) hx.lt.1 hx.lt.2
        have hl0 := hl.step (w1 := wr.alloc (.cells #[.int .u8 d, .int .u64 nn, .int .i64 k] 46)) (fun k' hk => Below.heap_alloc _ _ _ (hl.lt k' hk).2)
        have hbb := hbel.alloc hbel.size (.cells #[.int .u8 d, .int .u64 nn, .int .i64 k] 46)
        have hxl := hx.lt
        have hll0 := hl.lt
        have hCW : wr.heap.size < (wr.alloc (.cells #[.int .u8 d, .int .u64 nn, .int .i64 k] 46)).heap.size := by simp
        have hk1 : (wr.alloc (.cells #[.int .u8 d, .int .u64 nn, .int .i64 k] 46)).cell? ⟨wr.heap.size, 1, none⟩ = some (.int .u64 nn) := blk_cell (heap_alloc_new wr _) 1
        have hk2 : (wr.alloc (.cells #[.int .u8 d, .int .u64 nn, .int .i64 k] 46)).cell? ⟨wr.heap.size, 2, none⟩ = some (.int .i64 k) := blk_cell (heap_alloc_new wr _) 2
        generalize actsBits (A.take i) = L at *
        have hd2 : d % 2 = 0 ∨ d % 2 = 1 := by omega
        rcases hd2 with hd2 | hd2
        · go_wp2_with fail
          clear c0 c1 c2 HA hbel hx hl
          refine (put_any nn k g q L _ hx0 (by omega) (by omega) (by omega)).mono ?_
          rintro e w1 ⟨rfl, q1, hx1, hf, hm⟩
          have hl1 := hl0.step (w1 := w1) (fun k' hk => hf.block k' (by have := (hll0 k' hk).2; omega) (fun e => hg4 (by rw [hk, e])) (fun e => (hq k' e.symm).2 hk))
          have hkk1 := (World.cell?_of_block (a := ⟨wr.heap.size, 1, none⟩) (hf.block wr.heap.size hCW (by omega) (fun e => by have := hxl.2 _ e.symm; omega))).trans hk1
          have hkk2 := (World.cell?_of_block (a := ⟨wr.heap.size, 2, none⟩) (hf.block wr.heap.size hCW (by omega) (fun e => by have := hxl.2 _ e.symm; omega))).trans hk2
          have hb1 := hbb.trans (hf.below (B := w.heap.size) hbb.size (by omega) (fun k hk => by have := (hq k hk).1; omega))
          have hq1 : ∀ k, q1 = some k → g ≤ k ∧ k < w1.heap.size := fun k hk => by
            refine ⟨?_, hx1.lt.2 k hk⟩
            rcases hm with rfl | ⟨b, rfl, hb⟩
            · exact (hq k hk).1
            · injection hk with e; omega
          clear hf hm hbb hk1 hk2 hl0 hx0
          go_wp2_with fail
          refine (rput_own nn k w1 hl1 (by omega) (by omega) (by omega)).mono ?_
          rintro e w2 ⟨v2, rfl, hl2, hb⟩
          have hx2 := WX.below hx1 hb hx1.lt.1 hx1.lt.2
          have hgl := hx1.lt.1
          have hll2 := hl2.lt
          have hb2 := hb1.trans (hb.mono hb1.size)
          have hlw : LB w2 g v2 _ := hl2.lower (by omega)
          clear hb hb1 hx1 hl1 hkk1 hkk2 hl2
          go_wp2_with fail
          go_roundw
          case rel =>
            refine ⟨i + 1, q1, by omega, by go_num, ?_, ?_, fun k hk => ⟨(hq1 k hk).1, fun e => by have := (hq1 k hk).2; have := (hll2 k e).1; omega⟩, fun e => by have := (hll2 g e).1; omega, hb2⟩
            · rw [HS.out]
              unfold actBits
              rw [if_pos hd2]
              exact hx2
            · rw [HS.out]
              unfold actBits
              rw [if_pos hd2]
              exact hlw
          case measure => simp [intOf]; omega
        · go_wp2_with fail
          clear c0 c1 c2 HA hbel hx hl
          refine (wnum_any nn g q L _ hx0 (by omega) (by omega) (by omega)).mono ?_
          rintro e w1 ⟨rfl, q1, hx1, hf, hm⟩
          have hl1 := hl0.step (w1 := w1) (fun k' hk => hf.block k' (by have := (hll0 k' hk).2; omega) (fun e => hg4 (by rw [hk, e])) (fun e => (hq k' e.symm).2 hk))
          have hkk1 := (World.cell?_of_block (a := ⟨wr.heap.size, 1, none⟩) (hf.block wr.heap.size hCW (by omega) (fun e => by have := hxl.2 _ e.symm; omega))).trans hk1
          have hkk2 := (World.cell?_of_block (a := ⟨wr.heap.size, 2, none⟩) (hf.block wr.heap.size hCW (by omega) (fun e => by have := hxl.2 _ e.symm; omega))).trans hk2
          have hb1 := hbb.trans (hf.below (B := w.heap.size) hbb.size (by omega) (fun k hk => by have := (hq k hk).1; omega))
          have hq1 : ∀ k, q1 = some k → g ≤ k ∧ k < w1.heap.size := fun k hk => by
            refine ⟨?_, hx1.lt.2 k hk⟩
            rcases hm with rfl | ⟨b, rfl, hb⟩
            · exact (hq k hk).1
            · injection hk with e; omega
          clear hf hm hbb hk1 hk2 hl0 hx0
          go_wp2_with fail
          refine (rnum_own nn w1 hl1 (by omega) (by omega) (by omega)).mono ?_
          rintro e w2 ⟨v2, rfl, hl2, hb⟩
          have hx2 := WX.below hx1 hb hx1.lt.1 hx1.lt.2
          have hgl := hx1.lt.1
          have hll2 := hl2.lt
          have hb2 := hb1.trans (hb.mono hb1.size)
          have hlw : LB w2 g v2 _ := hl2.lower (by omega)
          clear hb hb1 hx1 hl1 hkk1 hkk2 hl2
          go_wp2_with fail
          go_roundw
          case rel =>
            refine ⟨i + 1, q1, by omega, by go_num, ?_, ?_, fun k hk => ⟨(hq1 k hk).1, fun e => by have := (hq1 k hk).2; have := (hll2 k e).1; omega⟩, fun e => by have := (hll2 g e).1; omega, hb2⟩
            · rw [HS.out]
              unfold actBits
              rw [if_neg (by simp only; omega)]
              exact hx2
            · rw [HS.out]
              unfold actBits
              rw [if_neg (by simp only; omega)]
              exact hlw
          case measure => simp [intOf]; omega
      · obtain rfl : i = A.length := by omega
        rw [List.take_length] at hx hl hll
        have hA5 := actsBits_split A
        obtain ⟨l, hlA⟩ : ∃ l, actsBits A = l := ⟨_, rfl⟩
        rw [hlA] at hx hl hll
        have HLA := Lib.hid hlA
        clear hlA hA5
        have hPl := pack_length l
        have hPb := pack_mem l
        unfold WR at hx
        obtain ⟨P, hP⟩ : ∃ P, pack l = P := ⟨_, rfl⟩
        rw [hP] at hx hPl hPb
        have HP := Lib.hid hP
        have hPl1 : 8 * P.length < l.length + 8 := by omega
        have hPl2 : l.length ≤ 8 * P.length := by omega
        clear hPl
        clear hP
        have hxl := hx.lt
        have hll0 := hl.lt
        go_wp2_with fail
        refine (bytes_any wr (by omega) hx).mono ?_
        rintro e w1 ⟨v7, rfl, hown, hb⟩
        have hx1 := WX.below hx hb hx.lt.1 hx.lt.2
        have hl1 := hl.step (w1 := w1) (fun k hk => hb.block k (hll0 k hk).2)
        have hb1 := hbel.trans (hb.mono hbel.size)
        obtain ⟨a7, c7, rfl⟩ := own_shape hown
        obtain ⟨a4, c4, rfl⟩ := hl1.slice
        have hown7 := hown.lt
        have hrb := RB.of_own hown
        clear hb hbel hx hl hq hg4 hown hxl hll0
        go_wp2_with (go_at_call 12; refine (len_any _ hx1).mono ?_; rintro e w' ⟨rfl, rfl⟩)
        refine (rbytes_any w1 hl1.own (by omega)).mono ?_
        rintro e w2 ⟨v9, rfl, hown9, hb⟩
        rw [HP.out] at hown9
        have hrb2 := hrb.below hb (fun k hk => (hown7 k hk).2)
        have hb2 := hb1.trans (hb.mono hb1.size)
        have hs2 := hb.size
        clear hb hb1 hx1 hl1 hrb
        go_wp2_with fail
        refine (equal_same w2 hrb2 (RB.of_own hown9) (by omega)).mono ?_
        rintro e w3 ⟨rfl, n3, rfl⟩
        have hrb3 : RB (w2.drewN n3) (.slice a7 P.length c7) P := hrb2
        have hb3 := below_drewN' hb2 n3
        clear hrb2 hb2 hown9
        generalize w2.drewN n3 = w3 at *
        go_wp2_with fail
        refine (newReader_any w3 (by omega) hrb3).mono ?_
        rintro e w4 ⟨g2, rfl, hr, hg2, hb⟩
        have hb4 := hb3.trans (hb.mono hb3.size)
        have hw3 := hb3.size
        clear hb hb3 hrb3 hown7
        go_wp2_with fail
        go_loopw [69] (fun u69 wr => WritesRel2 w w3.heap.size g2 A P u69 wr) (fun u69 _ => A.length - (intOf u69).toNat)
        case atStart => exact ⟨0, Nat.zero_le _, rfl, hr, hb4⟩
        case round =>
          clear hr hb4
          obtain ⟨i, hi, rfl, hr, hbel⟩ := hrel
          by_cases hin : i < A.length
          · rcases HA.out with ⟨h, _⟩ | ⟨b, off, cap, hv, hcap, hblt, hcells⟩
            · rw [h] at hin; simp at hin
            simp only [Value.slice.injEq, true_and] at hv
            obtain ⟨rfl, rfl⟩ := hv
            obtain ⟨h0, h1, h2⟩ := hcells i hin
            have hmem : A.getD i (0, 0, 0) ∈ A := by rw [List.getD_eq_getElem?_getD, List.getElem?_eq_getElem hin]; exact List.getElem_mem _
            have hd := had' _ hmem
            have hn := han' _ hmem
            have HS := Lib.hid (actsBits_succ A i hin)
            have HT := Lib.hid (actsBits_split A i hin)
            generalize A.getD i (0, 0, 0) = act at *
            obtain ⟨d, nn, k⟩ := act
            have c0 := (hbel.cell (p := ⟨b, off + i * 3, none⟩) hblt).trans h0
            have c1 := (hbel.cell (p := ⟨b, off + i * 3 + 1, none⟩) hblt).trans h1
            have c2 := (hbel.cell (p := ⟨b, off + i * 3 + 2, none⟩) hblt).trans h2
            clear hcells h0 h1 h2
            dsimp only at c0 c1 c2 hd hn
            have hr0 := hr.below ((Below.refl wr.heap.size wr).alloc (Nat.le_refl _) (.cells #[.int .u8 d, .int .u64 nn, .int .i64 k] 46)) hr.lt
            have hb0 := hbel.alloc hbel.size (.cells #[.int .u8 d, .int .u64 nn, .int .i64 k] 46)
            have hrl := hr.lt
            have hCW : wr.heap.size < (wr.alloc (.cells #[.int .u8 d, .int .u64 nn, .int .i64 k] 46)).heap.size := by simp
            have hk0 : (wr.alloc (.cells #[.int .u8 d, .int .u64 nn, .int .i64 k] 46)).cell? ⟨wr.heap.size, 0, none⟩ = some (.int .u8 d) := blk_cell (heap_alloc_new wr _) 0
            have hk1 : (wr.alloc (.cells #[.int .u8 d, .int .u64 nn, .int .i64 k] 46)).cell? ⟨wr.heap.size, 1, none⟩ = some (.int .u64 nn) := blk_cell (heap_alloc_new wr _) 1
            have hk2 : (wr.alloc (.cells #[.int .u8 d, .int .u64 nn, .int .i64 k] 46)).cell? ⟨wr.heap.size, 2, none⟩ = some (.int .i64 k) := blk_cell (heap_alloc_new wr _) 2
            go_upto_region 22 with (fail)
            clear c0 c1 c2 HA hbel hr
            generalize wr.alloc (.cells #[.int .u8 d, .int .u64 nn, .int .i64 k] 46) = W at *
            generalize wr.heap.size = C at *
            go_cut [11] (fun s11 wx => s11 = .int .i64 (clampK k : Int) ∧ wx = W)
            case first =>
              clear hr0 hb0 hk0 hk1
              go_wp2_with fail
              all_goals
                go_meet
                refine ⟨?_, rfl⟩
                congr 1
                unfold clampK
                omega
            case rest =>
              obtain ⟨rfl, rfl⟩ := hcut
              have hKK : clampK k ≤ 64 := by unfold clampK; omega
              have hm0 : (actsBits (A.take i)).length ≤ 8 * P.length := by
                obtain ⟨C', hsp⟩ := HT.out
                rw [HLA.out] at hsp
                have := congrArg List.length hsp
                simp at this
                omega
              have hd2 : d % 2 = 0 ∨ d % 2 = 1 := by omega
              rcases hd2 with hd2 | hd2
              · have hg : getR P (actsBits (A.take i)).length 0 (clampK k) = (nn % 2 ^ clampK k, (actsBits (A.take i)).length + clampK k, 0) := by
                  obtain ⟨C', hsp⟩ := HT.out
                  have hab : actBits (d, nn, k) = bitsOf nn (clampK k) := by unfold actBits; rw [if_pos hd2]
                  rw [HLA.out, hab] at hsp
                  have := getR_mid (actsBits (A.take i)) (bitsOf nn (clampK k)) C'
                  rw [← hsp, HP.out, bitsOf_length, valOf_bitsOf nn (by omega)] at this
                  exact this
                have hM2 : (actsBits (A.take (i + 1))).length = (actsBits (A.take i)).length + clampK k := by
                  rw [HS.out, List.length_append]
                  unfold actBits
                  rw [if_pos hd2, bitsOf_length]
                have hget : ∀ w', RD w' w3.heap.size g2 P (actsBits (A.take i)).length 0 → Calls Try.prog 17 #[.pointer (some ⟨g2, 0, none⟩), .int .i64 k] w' fun e w'' => e = .returned (.int .u64 (nn % 2 ^ clampK k)) ∧ RD w'' w3.heap.size g2 P ((actsBits (A.take i)).length + clampK k) 0 ∧ Fr w' w'' g2 none := fun w' h => by
                  have := get_any (e := 0) k w' h (by omega) hPb hm0
                  rw [hg] at this
                  exact this
                generalize clampK k = K at *
                generalize (actsBits (A.take i)).length = M at *
                have HM2 := Lib.hid hM2
                have HG := Lib.hid hget
                clear hg hM2 hget hm0
                have hdt : d.tmod 2 = 0 := by rw [Int.tmod_eq_emod_of_nonneg hd.1]; exact hd2
                by_cases hK : K = 64
                · subst hK
                  have hnn : nn % 2 ^ 64 = nn := by
                    have e64 : (2 : Int) ^ 64 = 18446744073709551616 := by decide
                    rw [e64]
                    omega
                  rw [hnn] at HG
                  clear hnn
                  go_wp2_with fail
                  go_quiet (fail)
                  go_wp2_with fail
                  go_region_held3 (fun w' => w'.cell? ⟨C, 0, none⟩ = some (.int .u8 d) ∧ w'.cell? ⟨C, 1, none⟩ = some (.int .u64 nn) ∧ w'.cell? ⟨C, 2, none⟩ = some (.int .i64 k)) (first | exact ⟨hk0, hk1, hk2⟩ | exact ⟨hkA0, hkA1, hkA2⟩)
                    (first
                      | (go_at_call 17; refine Calls.mono (HG.out _ (show RD _ _ _ _ _ _ from hr0)) ?_; rintro eA wA ⟨rfl, hrA, hfA⟩; have hkA0 := (World.cell?_of_block (a := ⟨C, 0, none⟩) (hfA.block C hCW (by omega) (by simp))).trans hk0; have hkA1 := (World.cell?_of_block (a := ⟨C, 1, none⟩) (hfA.block C hCW (by omega) (by simp))).trans hk1; have hkA2 := (World.cell?_of_block (a := ⟨C, 2, none⟩) (hfA.block C hCW (by omega) (by simp))).trans hk2))
                  have hbA := (show Below w.heap.size w _ from below_drewN' hb0 (nq + 1)).trans (hfA.below (B := w.heap.size) hb0.size (by omega) (by simp))
                  clear hr0 hk0 hk1 hk2 hb0 hfA
                  go_wp2_with fail
                  go_quiet (fail)
                  go_wp2_with fail
                  go_roundw
                  case rel => exact ⟨i + 1, by omega, by go_num, by rw [HM2.out]; exact hrA.drewN _, below_drewN' hbA _⟩
                  case measure => simp [intOf]; omega
                · have hK1 : ((K : Int) == 64) = false := by simp; omega
                  have hK2 : decide ((K : Int) < 64) = true := decide_eq_true (by omega)
                  have hmin : min K 64 = K := by omega
                  have hp0 : (0 : Int) < 2 ^ K := Int.pow_pos (by decide)
                  have hp1 : (2 : Int) ^ K < 18446744073709551616 := by
                    have := pow_le (i := K) (j := 63) (by omega)
                    have e : (2 : Int) ^ 63 = 9223372036854775808 := by decide
                    omega
                  have hpm : (2 : Int) ^ K % 18446744073709551616 = 2 ^ K := Int.emod_eq_of_lt (by omega) hp1
                  have hpw : IntKind.u64.wrap (2 ^ K) = 2 ^ K := by rw [IntKind.wrap_u64]; exact hpm
                  have hpn : ((2 : Int) ^ K == 0) = false := by simp; omega
                  have hpn2 : ¬ (2 : Int) ^ K = 0 := by omega
                  have hnt : nn.tmod (2 ^ K) = nn % 2 ^ K := Int.tmod_eq_emod_of_nonneg hn.1
                  have hnl : nn % 2 ^ K < 18446744073709551616 := by have := Int.emod_lt_of_pos nn hp0; omega
                  have hnw : IntKind.u64.wrap (nn % 2 ^ K) = nn % 2 ^ K := by rw [IntKind.wrap_u64]; exact Int.emod_eq_of_lt (Int.emod_nonneg _ (by omega)) hnl
                  clear hp0 hp1 hnl
                  go_wp2_with fail
                  go_quiet (fail)
                  go_wp2_with fail
                  go_quiet (fail)
                  go_wp2_with fail
                  go_region_held3 (fun w' => w'.cell? ⟨C, 0, none⟩ = some (.int .u8 d) ∧ w'.cell? ⟨C, 1, none⟩ = some (.int .u64 nn) ∧ w'.cell? ⟨C, 2, none⟩ = some (.int .i64 k)) (first | exact ⟨hk0, hk1, hk2⟩ | exact ⟨hkA0, hkA1, hkA2⟩)
                    (first
                      | (go_at_call 17; refine Calls.mono (HG.out _ (show RD _ _ _ _ _ _ from hr0)) ?_; rintro eA wA ⟨rfl, hrA, hfA⟩; have hkA0 := (World.cell?_of_block (a := ⟨C, 0, none⟩) (hfA.block C hCW (by omega) (by simp))).trans hk0; have hkA1 := (World.cell?_of_block (a := ⟨C, 1, none⟩) (hfA.block C hCW (by omega) (by simp))).trans hk1; have hkA2 := (World.cell?_of_block (a := ⟨C, 2, none⟩) (hfA.block C hCW (by omega) (by simp))).trans hk2))
                  have hbA := (show Below w.heap.size w _ from below_drewN' hb0 _).trans (hfA.below (B := w.heap.size) hb0.size (by omega) (by simp))
                  clear hr0 hk0 hk1 hk2 hb0 hfA
                  go_wp2_with fail
                  go_roundw
                  case rel => exact ⟨i + 1, by omega, by go_num, by rw [HM2.out]; exact hrA, hbA⟩
                  case measure => simp [intOf]; omega
              · have hg : numR P (actsBits (A.take i)).length 0 = (nn, (actsBits (A.take i)).length + (numBits nn).length, 0) := by
                  obtain ⟨C', hsp⟩ := HT.out
                  have hab : actBits (d, nn, k) = numBits nn := by unfold actBits; rw [if_neg (by simp only; omega)]
                  rw [HLA.out, hab] at hsp
                  have := numR_mid (actsBits (A.take i)) C' nn (by omega) (by omega)
                  rw [← hsp, HP.out] at this
                  exact this
                have hM2 : (actsBits (A.take (i + 1))).length = (actsBits (A.take i)).length + (numBits nn).length := by
                  rw [HS.out, List.length_append]
                  unfold actBits
                  rw [if_neg (by simp only; omega)]
                have hget : ∀ w', RD w' w3.heap.size g2 P (actsBits (A.take i)).length 0 → Calls Try.prog 22 #[.pointer (some ⟨g2, 0, none⟩)] w' fun e w'' => e = .returned (.int .u64 nn) ∧ RD w'' w3.heap.size g2 P ((actsBits (A.take i)).length + (numBits nn).length) 0 ∧ Fr w' w'' g2 none := fun w' h => by
                  have := rdnum_any (e := 0) w' h (by omega) hPb hm0
                  rw [hg] at this
                  exact this
                generalize clampK k = K at *
                generalize (actsBits (A.take i)).length = M at *
                have HM2 := Lib.hid hM2
                have HG := Lib.hid hget
                clear hg hM2 hget hm0
                have hdt : d.tmod 2 = 1 := by rw [Int.tmod_eq_emod_of_nonneg hd.1]; exact hd2
                go_wp2_with fail
                go_region_held3 (fun w' => w'.cell? ⟨C, 0, none⟩ = some (.int .u8 d) ∧ w'.cell? ⟨C, 1, none⟩ = some (.int .u64 nn) ∧ w'.cell? ⟨C, 2, none⟩ = some (.int .i64 k)) (first | exact ⟨hk0, hk1, hk2⟩ | exact ⟨hkA0, hkA1, hkA2⟩)
                  (first
                    | (go_at_call 22; refine Calls.mono (HG.out _ (show RD _ _ _ _ _ _ from hr0)) ?_; rintro eA wA ⟨rfl, hrA, hfA⟩; have hkA0 := (World.cell?_of_block (a := ⟨C, 0, none⟩) (hfA.block C hCW (by omega) (by simp))).trans hk0; have hkA1 := (World.cell?_of_block (a := ⟨C, 1, none⟩) (hfA.block C hCW (by omega) (by simp))).trans hk1; have hkA2 := (World.cell?_of_block (a := ⟨C, 2, none⟩) (hfA.block C hCW (by omega) (by simp))).trans hk2))
                have hbA := (show Below w.heap.size w _ from below_drewN' hb0 1).trans (hfA.below (B := w.heap.size) hb0.size (by omega) (by simp))
                clear hr0 hk0 hk1 hk2 hb0 hfA
                go_wp2_with fail
                go_quiet (fail)
                go_wp2_with fail
                go_quiet (fail)
                go_wp2_with fail
                go_roundw
                case rel => exact ⟨i + 1, by omega, by go_num, by rw [HM2.out]; exact hrA, below_drewN' hbA _⟩
                case measure => simp [intOf]; omega
          · obtain rfl : i = A.length := by omega
            rw [List.take_length, HLA.out] at hr
            have hleft : ((8 * P.length - l.length : Nat) : Int) = 8 * (P.length : Int) - (l.length : Int) := by omega
            have hw1 : IntKind.i64.wrap (8 * (P.length : Int)) = 8 * (P.length : Int) := IntWalk.i64_in _ (by omega)
            have hw2 : IntKind.i64.wrap (8 * (P.length : Int) - (l.length : Int)) = 8 * (P.length : Int) - (l.length : Int) := IntWalk.i64_in _ (by omega)
            have hend := endR_all l
            rw [HP.out] at hend
            have HL := left_any wr hr (by omega) hPl2
            rw [hleft] at HL
            have HLL := Lib.hid HL
            have HE := Lib.hid (fun n => end_any (wr.drewN n) (hr.drewN n) (by omega) hPb hPl2)
            rw [hend] at HE
            have hrl := hr.lt
            clear HL hleft hend
            go_wp2_with (first | (go_at_call 26; refine (err_any _ hr).mono ?_; rintro e w' ⟨rfl, rfl⟩) | (go_at_call 18; refine HLL.out.mono ?_; rintro e w' ⟨rfl, nl, rfl⟩) | (go_at_call 24; refine (HE.out _).mono ?_; rintro e w' ⟨rfl, hr', hf⟩))
            go_ret
            exact ⟨rfl, (below_drewN' hbel nl).trans (hf.below (B := w.heap.size) hbel.size (by omega) (by simp))⟩
end Go.Proofs.Ytcooeopcjomhoaa
