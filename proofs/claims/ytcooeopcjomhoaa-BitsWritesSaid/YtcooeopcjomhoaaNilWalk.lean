/- The law BitsNil answers true. -/
import Derived.Test.YtcooeopcjomhoaaPartsWalk
import Derived.Test.YtcooeopcjomhoaaRNum
namespace Go.Proofs.Ytcooeopcjomhoaa
open Go.RowKit Plain

set_option maxHeartbeats 400000 in
theorem clone_empty (x : Addr) (c : Nat) (w : World) :
    Calls Try.prog 19 #[.slice (some x) 0 c] w fun e w' => ∃ v', e = .returned v' ∧ w'.ownsRow w.heap.size 5 1 v' 0 [] ∧ Below w.heap.size w w' := by
  have hr := fun (wx : World) => Lib.run_eql_slice_nil (P := Try.prog) wx 33 5 (some x) 0 c 0 0 Try.underlying33
  obtain ⟨i0, hi, hz0, hz1, hz2⟩ := info_parts Try.info5
  have hown := World.ownsRow_made (base := w.heap.size) (e := 5) (size := 1) w #[] 0 (Nat.le_refl _) (Nat.zero_le _) rfl
  go_enter Try.func19, Try.ntmps19
  go_wp2_with (at_builtin; refine wpList_append_own_at _ rfl _ _ 33 rfl w.heap.size 5 i0 (.int .u8 0) 1 1 Try.underlying33 hi hz0 hz1 hz2 rfl (by decide) _ _ _ rfl hown x 0 c [] rfl (by simp) (fun j u hj => by simp at hj) (fun x hx => by simp at hx) (by unfold maxLen; omega) (by omega) (by simp) ?_; intro v' w1 hown' hgrow _ hat)
  go_ret
  refine ⟨_, rfl, by simpa using hown', ?_⟩
  exact ((Below.refl _ _).alloc (Nat.le_refl _) _).grown hgrow (by simp) (fun k hk => Nat.le_of_eq (by have hk' : (Value.slice (some ⟨w.heap.size, 0, none⟩) 0 0).ownBlock = some k := hk; simpa [Value.ownBlock] using hk'))

/-- Bytes that came in: they read as ys. -/
def InB (w : World) (v : Value) (ys : List Int) : Prop := RB w v ys ∨ ∃ x c, v = .slice (some x) 0 c ∧ ys = []
theorem InB.slice {w : World} {v : Value} {P : List Int} (h : InB w v P) : ∃ a c, v = .slice a P.length c := by
  rcases h with h | ⟨x, c, rfl, rfl⟩
  · exact h.slice
  · exact ⟨_, _, rfl⟩

/-- Behind the clone of the first bytes. -/
def Cloned (w : World) (ys : List Int) (s0 : Value) (wx : World) : Prop :=
  ∃ B, w.heap.size ≤ B ∧ wx.ownsRow B 5 1 s0 ys.length (ys.map (Value.int .u8)) ∧ Below w.heap.size w wx

theorem own_shape {w : World} {base : Nat} {e : TypeId} {size : Nat} {v : Value} {n : Nat} {xs : List Value} (h : w.ownsRow base e size v n xs) : ∃ a c, v = .slice a n c := by
  rcases h.2 with ⟨rfl, rfl⟩ | ⟨g, cap, cur, rfl, _⟩
  · exact ⟨_, _, rfl⟩
  · exact ⟨_, _, rfl⟩
theorem put_lit64 (n : Int) (g : Nat) (q : Option Nat) (l : List Bool) (w : World) (hw : WR w g q l) (h0 : 0 ≤ n) (h1 : n < 18446744073709551616) (hl : l.length < 100000) :
    Calls Try.prog 13 #[.pointer (some ⟨g, 0, none⟩), .int .u64 n, .int .i64 64] w fun e w' => e = .returned (.tuple #[]) ∧ ∃ q', WR w' g q' (l ++ bitsOf n 64) ∧ Fr w w' g q ∧ Mv w q q' := put_64 n g q l w hw h0 h1 hl
def XorRel (w : World) (B lo1 g1 : Nat) (a0 : Option Addr) (c0 : Nat) (Y : List Int) (u28 : Value) (wr : World) : Prop :=
  ∃ (i : Nat) (zs : List Int), i ≤ Y.length ∧ u28 = .int .i64 (i : Int) ∧ zs.length = Y.length ∧ wr.ownsRow B 5 1 (.slice a0 Y.length c0) Y.length (zs.map (Value.int .u8)) ∧ RD wr lo1 g1 Y 0 0 ∧ Below w.heap.size w wr

set_option maxHeartbeats 1000000 in
set_option maxRecDepth 100000 in
theorem nil_any (v : Value) (ys : List Int) (n : Int) (w : World) (hp : InB w v ys) (hb : ∀ x ∈ ys, 0 ≤ x ∧ x ≤ 255) (hl : ys.length ≤ 9223372036854775807) (hn0 : 0 ≤ n) (hn1 : n < 18446744073709551616) :
    Calls Try.prog 6 #[v, .int .u64 n] w fun e w' => e = .returned (.bool true) ∧ Below w.heap.size w w' := by
  obtain ⟨a, c, rfl⟩ := hp.slice
  go_enter Try.func6, Try.ntmps6
  go_upto_region 3 with (go_at_call 8; refine (awake_any w).mono ?_; rintro e w0 ⟨rfl, hbw⟩)
  go_cut [0] (fun s0 wx => Cloned w (ys.take 20) s0 wx)
  case first =>
    rcases hp with hp | ⟨x, c', hx, rfl⟩
    case inr =>
      simp only [Value.slice.injEq] at hx
      obtain ⟨rfl, _, rfl⟩ := hx
      go_wp2_with fail
      refine (clone_empty x c _).mono ?_
      rintro e w1 ⟨v', rfl, hown, hbel⟩
      go_wp2_with fail
      go_meet
      exact ⟨_, hbw.size, hown, hbw.trans (hbel.mono hbw.size)⟩
    have hp0 : RB w0 (.slice a ys.length c) ys := hp.below hbw (fun k hk => by
      rcases hp with ⟨h, _⟩ | ⟨b, off, cap, h, _, h2, _⟩
      · rw [h] at hk; simp [Value.ownBlock] at hk
      · rw [h] at hk; simp [Value.ownBlock] at hk; omega)
    rcases hp0 with ⟨h, rfl⟩ | ⟨b, off, cap, h, h1, h2, h3⟩
    · simp only [Value.slice.injEq] at h
      obtain ⟨rfl, _, rfl⟩ := h
      go_wp2_with fail
      refine (clone_nil _).mono ?_
      rintro e w' ⟨rfl, rfl⟩
      go_wp2_with fail
      go_meet
      exact ⟨w.heap.size, Nat.le_refl _, World.ownsRow_nil _ _ _ _, hbw⟩
    · simp only [Value.slice.injEq] at h
      obtain ⟨rfl, _, rfl⟩ := h
      have hmk : ∀ (n : Nat), n = (ys.take 20).length → RB w0 (.slice (some ⟨b, off, none⟩) n c) (ys.take 20) := fun n hn => by
        subst hn
        refine .inr ⟨b, off, c, rfl, by simp; omega, h2, fun j u hj => h3 j u ?_⟩
        rw [List.getElem?_take] at hj
        split at hj
        · exact hj
        · simp at hj
      have HM := Lib.hid hmk
      clear hmk
      by_cases h20 : ys.length ≤ 20
      · have hcl := clone_any w0 (by simp; omega) (HM.out ys.length (by simp; omega))
        have HC := Lib.hid hcl
        clear hcl h3
        go_wp2_with fail
        refine HC.out.mono ?_
        rintro e w1 ⟨v', rfl, hown, hbel⟩
        go_wp2_with fail
        go_meet
        exact ⟨_, hbw.size, hown, hbw.trans (hbel.mono hbw.size)⟩
      · have hcl := clone_any w0 (by simp; omega) (HM.out 20 (by simp; omega))
        have HC := Lib.hid hcl
        clear hcl h3
        go_wp2_with fail
        refine HC.out.mono ?_
        rintro e w1 ⟨v', rfl, hown, hbel⟩
        go_wp2_with fail
        go_meet
        exact ⟨_, hbw.size, hown, hbw.trans (hbel.mono hbw.size)⟩
  case rest =>
    obtain ⟨B, hB, hown, hbw⟩ := hcut
    have hbt : ∀ x ∈ ys.take 20, 0 ≤ x ∧ x ≤ 255 := fun x hx => hb x (List.mem_of_mem_take hx)
    have hlt : (ys.take 20).length ≤ 20 := List.length_take_le _ _
    clear hp hb hl
    generalize ys.take 20 = Y at *
    obtain ⟨a0, c0, rfl⟩ := own_shape hown
    have hrb := RB.of_own hown
    have hws := hbw.size
    have hob : ∀ k, (Value.slice a0 Y.length c0).ownBlock = some k → B ≤ k ∧ k < wc.heap.size := hown.lt
    go_wp2_with fail
    refine (newReader_any wc (by omega) hrb).mono ?_
    rintro e w1 ⟨g1, rfl, hr1, hg1, hb1⟩
    have hown1 := YtcooeopcjomhoaaW.PrintWords.own_move hown (w1 := w1) (fun k hk => hb1.block k (hob k hk).2)
    have hrb1 := RB.of_own hown1
    have hbw1 := hbw.trans (hb1.mono hbw.size)
    clear hrb hbw hown
    go_wp2_with fail
    refine (newReader_any w1 (by omega) hrb1).mono ?_
    rintro e w2 ⟨g2, rfl, hr2, hg2, hb2⟩
    have hown2 := YtcooeopcjomhoaaW.PrintWords.own_move hown1 (w1 := w2) (fun k hk => hb2.block k (by have := (hown1.lt k hk).2; omega))
    have hr1' := hr1.below hb2 hr1.lt
    have hl1 := hr1.lt
    have hbw2 := hbw1.trans (hb2.mono hbw1.size)
    clear hb1 hb2 hbw1 hown1 hr1 hrb1
    go_wp2_with fail
    refine (get_any 64 w2 hr2 (by omega) hbt (by omega)).mono ?_
    rintro e w3 ⟨rfl, hr2', hf⟩
    have hown3 := YtcooeopcjomhoaaW.PrintWords.own_move hown2 (w1 := w3) (fun k hk => hf.block k (hown2.lt k hk).2 (by have := (hob k hk).2; omega) (by simp))
    have hr3 := hr1'.fr hf (.inl (by omega)) (by omega)
    have hbw3 := hbw2.trans (hf.below (B := w.heap.size) hbw2.size (by omega) (by simp))
    clear hown2 hr1' hbw2 hf hr2 hr2'
    have hW : ∃ W, (getR Y 0 0 (clampK 64)).1 = W := ⟨_, rfl⟩
    obtain ⟨W, hW⟩ := hW
    rw [hW]
    have HW := Lib.hid hW
    clear hW
    go_wp2_with fail
    go_loopw [28] (fun u28 wr => XorRel w B wc.heap.size g1 a0 c0 Y u28 wr) (fun u28 _ => Y.length - (intOf u28).toNat)
    case atStart => exact ⟨0, Y, Nat.zero_le _, rfl, rfl, hown3, hr3, hbw3⟩
    case round =>
      clear hown3 hr3 hbw3
      obtain ⟨i, zs, hi, rfl, hzs, hown, hr, hbel⟩ := hrel
      by_cases hlt2 : i < Y.length
      · obtain ⟨c, cap, hv, hcap1, hcap2⟩ := own_open hown (by omega)
        simp only [Value.slice.injEq] at hv
        obtain ⟨rfl, _, rfl⟩ := hv
        have hcb := hob c rfl
        have hcell := hown.cellAt i (by omega)
        have hfz := hown.frozenAt i
        have hzi : i < zs.length := by omega
        rw [List.getElem?_map, List.getElem?_eq_getElem hzi, Option.map_some] at hcell
        generalize zs[i] = x at *
        go_wp2_with fail
        go_roundw
        case rel =>
          obtain ⟨h4, _⟩ := hown.stored i (.int .u8 (bits BinOp.xor IntKind.u8 x 255))
          refine ⟨i + 1, zs.set i (bits BinOp.xor IntKind.u8 x 255), by omega, by go_num, by simpa using hzs, by rw [List.map_set]; exact h4, hr.fr ((Fr.refl wr c none).set i _) (.inr (by omega)) (by omega), hbel.setCell (by show w.heap.size ≤ c; omega) _⟩
        case measure => simp [intOf]; omega
      · obtain rfl : i = Y.length := by omega
        clear hown hob hi
        go_wp2_with fail
        refine (newWriter_any wr).mono ?_
        rintro e w' ⟨rfl, rfl⟩
        have hr4 := hr.below ((Below.refl wr.heap.size wr).alloc (Nat.le_refl _) (.cells #[.slice none 0 0, .int .i64 0] 59)) hr.lt
        have hx4 := WR.new wr
        have hb4 := hbel.alloc hbel.size (.cells #[.slice none 0 0, .int .i64 0] 59)
        have hs4 : (wr.alloc (.cells #[.slice none 0 0, .int .i64 0] 59)).heap.size = wr.heap.size + 1 := by simp
        have hrl := hr.lt
        have hbs := hbel.size
        clear hr hbel
        generalize wr.alloc (.cells #[.slice none 0 0, .int .i64 0] 59) = w4 at *
        obtain ⟨gw, hgw⟩ : ∃ gw, wr.heap.size = gw := ⟨_, rfl⟩
        rw [hgw] at hx4 hs4 hrl hbs ⊢
        clear hgw
        go_wp2_with fail
        refine (put_lit64 n gw none [] w4 hx4 hn0 hn1 (by decide)).mono ?_
        rintro e w5 ⟨rfl, q5, hx5, hf, hm⟩
        have hr5 := hr4.fr hf (.inl (by omega)) (by omega)
        have hb5 := hb4.trans (hf.below (B := w.heap.size) hb4.size (by omega) (by simp))
        have hq5 := hm.ge (B := w4.heap.size) (Nat.le_refl _) (fun k hk => by simp at hk)
        clear hf hm hr4 hb4 hx4
        rw [List.nil_append] at hx5
        have hPl : (pack (bitsOf n 64)).length = 8 := by rw [pack_length, bitsOf_length]
        have hPb := pack_mem (bitsOf n 64)
        have eN : getV (pack (bitsOf n 64)) 0 64 = n := by
          have := getV_mid [] (bitsOf n 64) []
          rw [bitsOf_length, valOf_bitsOf n hn0] at this
          have e64 : (2 : Int) ^ 64 = 18446744073709551616 := by decide
          rw [e64, Int.emod_eq_of_lt hn0 hn1] at this
          simpa using this
        have HN := Lib.hid eN
        have HPL := Lib.hid hPl
        have hPl2 : (pack (bitsOf n 64)).length ≤ 8 := by omega
        have hPl3 : 8 ≤ (pack (bitsOf n 64)).length := by omega
        unfold WR at hx5
        clear eN hPl
        generalize pack (bitsOf n 64) = P at *
        rw [bitsOf_length] at hx5
        go_wp2_with fail
        refine (bytes_any w5 (by omega) hx5).mono ?_
        rintro e w6 ⟨v6, rfl, hown6, hb⟩
        have hr6 := hr5.below hb hr5.lt
        have hx6 := WX.below hx5 hb hx5.lt.1 hx5.lt.2
        have hb6 := hb5.trans (hb.mono hb5.size)
        have hs6 := hb.size
        have hxl := hx5.lt.1
        have hql := hx5.lt.2
        have hrl5 := hr5.lt
        have hwl5 := hb5.size
        clear hb hr5 hx5 hb5
        obtain ⟨c6, cap6, rfl, hcap1, hcap2⟩ := own_open hown6 (by omega)
        have hc6 := (hown6.lt c6 rfl).1
        have hp0 : 0 < P.length := by omega
        have hcell := hown6.cellAt 0 (by omega)
        have hfz := hown6.frozenAt 0
        rw [List.getElem?_map, List.getElem?_eq_getElem hp0, Option.map_some] at hcell
        generalize P[0] = x0 at *
        have hfx : Fr w6 (w6.setCell ⟨c6, 0, none⟩ (.int .u8 (bits BinOp.xor IntKind.u8 x0 255))) c6 none := (Fr.refl w6 c6 none).set 0 _
        have hr7 := hr6.fr hfx (.inl (by omega)) (by omega)
        have hx7 := hx6.fr hfx (by omega) (by simp) (fun k hk => ⟨by have := hql k hk; omega, by simp⟩)
        have hb7 : Below w.heap.size w (w6.setCell ⟨c6, 0, none⟩ (.int .u8 (bits BinOp.xor IntKind.u8 x0 255))) := hb6.setCell (by show w.heap.size ≤ c6; omega) _
        clear hr6 hx6 hb6 hfx hown6
        have hput := put_nil n 5
        have HPUT := Lib.hid hput
        have HNUM := Lib.hid (fun wx => wnum_nil n wx hn0 hn1)
        clear hput
        go_wp2_with (first | (go_at_call 13; refine (HPUT.out _).mono ?_; rintro e w' ⟨rfl, rfl⟩) | (go_at_call 10; refine (HNUM.out _).mono ?_; rintro e w' ⟨rfl, rfl⟩))
        generalize w6.setCell ⟨c6, 0, none⟩ (.int .u8 (bits BinOp.xor IntKind.u8 x0 255)) = w7 at *
        refine (bytes_any w7 (by omega) hx7).mono ?_
        rintro e w8 ⟨v8, rfl, hown8, hb⟩
        have hr8 := hr7.below hb hr7.lt
        have hb8 := hb7.trans (hb.mono hb7.size)
        clear hb hr7 hb7 hx7
        go_wp2_with fail
        refine (newReader_any w8 (by omega) (RB.of_own hown8)).mono ?_
        rintro e w9 ⟨g9, rfl, hr9, hg9, hb⟩
        have hr8' := hr8.below hb hr8.lt
        have hb9 := hb8.trans (hb.mono hb8.size)
        have hrl8 := hr8.lt
        have hbl8 := hb8.size
        clear hb hr8 hb8 hown8
        go_wp2_with fail
        refine (get_k 64 64 w9 hr9 (by decide) (by omega) hPb (by omega)).mono ?_
        rintro e w10 ⟨rfl, hr10, hf⟩
        have hr11 := hr8'.fr hf (.inl (by omega)) (by omega)
        have hb11 := hb9.trans (hf.below (B := w.heap.size) hb9.size (by omega) (by simp))
        clear hr8' hf hb9 hr10 hr9
        rw [HN.out]
        go_wp2_with fail
        refine (get_any 64 w10 hr11 (by omega) hbt (by omega)).mono ?_
        rintro e w11 ⟨rfl, hr12, hf⟩
        have hb12 := hb11.trans (hf.below (B := w.heap.size) hb11.size (by omega) (by simp))
        clear hf hr12 hr11 hb11
        rw [HW.out]
        go_wp2_with (first | (go_at_call 12; refine (len_nil _).mono ?_; rintro e w' ⟨rfl, rfl⟩) | (go_at_call 15; refine (bytes_nil _).mono ?_; rintro e w' ⟨rfl, rfl⟩) | (go_at_call 17; refine (get_nil _ _).mono ?_; rintro e w' ⟨rfl, rfl⟩) | (go_at_call 22; refine (rdnum_nil _).mono ?_; rintro e w' ⟨rfl, rfl⟩) | (go_at_call 18; refine (left_nil _).mono ?_; rintro e w' ⟨rfl, rfl⟩) | (go_at_call 26; refine (err_nil _).mono ?_; rintro e w' ⟨rfl, rfl⟩) | (go_at_call 24; refine (end_nil _).mono ?_; rintro e w' ⟨rfl, rfl⟩))
        go_ret
        exact ⟨rfl, hb12⟩
end Go.Proofs.Ytcooeopcjomhoaa
