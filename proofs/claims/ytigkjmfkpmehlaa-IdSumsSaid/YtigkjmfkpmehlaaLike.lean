/- like (of kinfolklaw01): an id and the document's that stand for one tree are alike. (Printed by wip/ids/like.py.) -/
import Derived.Test.YtigkjmfkpmehlaaMade
namespace Go.Proofs.Ytigkjmfkpmehlaa
open Go.RowKit

def LC (w : World) (B b : Nat) (a : Bool) (p : Option Addr) (k : Int) (pl pr : Option Addr) (w' : World) : Prop := Below w.heap.size w w' ∧ Bx w' B a p ∧ RN w' b k pl pr
theorem LC.below {w w' w'' : World} {B b : Nat} {a : Bool} {p : Option Addr} {k : Int} {pl pr : Option Addr} (h : LC w B b a p k pl pr w') (hk : Below w'.heap.size w' w'') : LC w B b a p k pl pr w'' :=
  ⟨h.1.trans (hk.mono h.1.size), h.2.1.below hk, h.2.2.below hk⟩
def LN (w : World) (B b c : Nat) (k : Int) (x : Bool) (px : Option Addr) (y : Bool) (py : Option Addr) (pl pr : Option Addr) (w' : World) : Prop := Below w.heap.size w w' ∧ Bx w' B false (some ⟨c, 0, none⟩) ∧ RN w' b k pl pr ∧ Nd w' c x px y py
theorem LN.below {w w' w'' : World} {B b c : Nat} {k : Int} {x : Bool} {px : Option Addr} {y : Bool} {py : Option Addr} {pl pr : Option Addr} (h : LN w B b c k x px y py pl pr w') (hk : Below w'.heap.size w' w'') : LN w B b c k x px y py pl pr w'' :=
  ⟨h.1.trans (hk.mono h.1.size), h.2.1.below hk, h.2.2.1.below hk, h.2.2.2.below hk⟩
theorem left_leaf_z (w : World) : Calls Try.prog 32 #[.agg #[.bool false, .pointer none]] w fun e w' => e = .returned (.agg #[.bool false, .pointer none]) ∧ Below w.heap.size w w' := by
  refine Calls.mono (left_any (t := .z) w rfl) ?_
  rintro e w' ⟨v, rfl, hv, hk⟩
  obtain rfl := hv
  exact ⟨rfl, hk⟩
theorem left_leaf_o (w : World) : Calls Try.prog 32 #[.agg #[.bool true, .pointer none]] w fun e w' => e = .returned (.agg #[.bool true, .pointer none]) ∧ Below w.heap.size w w' := by
  refine Calls.mono (left_any (t := .o) w rfl) ?_
  rintro e w' ⟨v, rfl, hv, hk⟩
  obtain rfl := hv
  exact ⟨rfl, hk⟩
theorem right_leaf_z (w : World) : Calls Try.prog 33 #[.agg #[.bool false, .pointer none]] w fun e w' => e = .returned (.agg #[.bool false, .pointer none]) ∧ Below w.heap.size w w' := by
  refine Calls.mono (right_any (t := .z) w rfl) ?_
  rintro e w' ⟨v, rfl, hv, hk⟩
  obtain rfl := hv
  exact ⟨rfl, hk⟩
theorem right_leaf_o (w : World) : Calls Try.prog 33 #[.agg #[.bool true, .pointer none]] w fun e w' => e = .returned (.agg #[.bool true, .pointer none]) ∧ Below w.heap.size w w' := by
  refine Calls.mono (right_any (t := .o) w rfl) ?_
  rintro e w' ⟨v, rfl, hv, hk⟩
  obtain rfl := hv
  exact ⟨rfl, hk⟩
theorem same_leaf_z (w : World) : Calls Try.prog 35 #[.agg #[.bool false, .pointer none], .agg #[.bool false, .pointer none]] w fun e w' => e = .returned (.bool true) ∧ Below w.heap.size w w' := Same_any (a := .z) (b := .z) w rfl rfl
theorem same_leaf_o (w : World) : Calls Try.prog 35 #[.agg #[.bool true, .pointer none], .agg #[.bool true, .pointer none]] w fun e w' => e = .returned (.bool true) ∧ Below w.heap.size w w' := Same_any (a := .o) (b := .o) w rfl rfl
theorem left_node {l r : T} {b : Nat} {x y : Bool} {px py : Option Addr} (w : World) (_ : IDV w (.n l r) (.agg #[.bool false, .pointer (some ⟨b, 0, none⟩)])) (hn : Nd w b x px y py) : Calls Try.prog 32 #[.agg #[.bool false, .pointer (some ⟨b, 0, none⟩)]] w fun e w' => e = .returned (.agg #[.bool x, .pointer px]) ∧ Below w.heap.size w w' := by
  have h0 := hn.c0
  have h1 := hn.c1
  have hb := hn.lt
  have hn1 : w.heap.size ≠ b := by omega
  have hn2 : w.heap.size + 1 ≠ b := by omega
  clear hn
  go_enter Try.func32, Try.ntmps32
  go_wp2_with fail
  exact bodyPost_ret (v := .agg #[.bool x, .pointer px]) (by simp [results, Try.results32, go_sem]) rfl ⟨rfl, bel1 _ _ _⟩
theorem right_node {l r : T} {b : Nat} {x y : Bool} {px py : Option Addr} (w : World) (_ : IDV w (.n l r) (.agg #[.bool false, .pointer (some ⟨b, 0, none⟩)])) (hn : Nd w b x px y py) : Calls Try.prog 33 #[.agg #[.bool false, .pointer (some ⟨b, 0, none⟩)]] w fun e w' => e = .returned (.agg #[.bool y, .pointer py]) ∧ Below w.heap.size w w' := by
  have h0 := hn.c2
  have h1 := hn.c3
  have hb := hn.lt
  have hn1 : w.heap.size ≠ b := by omega
  have hn2 : w.heap.size + 1 ≠ b := by omega
  clear hn
  go_enter Try.func33, Try.ntmps33
  go_wp2_with fail
  exact bodyPost_ret (v := .agg #[.bool y, .pointer py]) (by simp [results, Try.results33, go_sem]) rfl ⟨rfl, bel1 _ _ _⟩

set_option maxRecDepth 100000 in
set_option maxHeartbeats 3200000 in
theorem like_any : ∀ {t : T} {v p : Value} (w : World), t.depth ≤ 20 → IDV w t v → RV w t p → Calls Try.prog 29 #[v, p] w fun e w' => e = .returned (.bool true) ∧ Below w.heap.size w w'
  | .z, v, p, w, hd, h, hr => by
    have HV := Lib.hid h
    have HR := Lib.hid hr
    obtain rfl := h
    obtain ⟨b, pl, pr, rfl, hn⟩ := hr
    have hz : T.isZ T.z = true := rfl
    have ho : T.isO T.z = false := rfl
    have hts : (T.z).text.size ≤ 9223372036854775807 := by
      have h1 := T.text_size (T.z)
      have h2 : 2 ^ (T.depth (T.z)) ≤ 2 ^ 20 := Nat.pow_le_pow_right (by omega) hd
      omega
    have b1 := Bx.new w false none
    have hb := bel0 w (.cells #[.bool false, .pointer none] 31)
    have hn := hn.below hb
    go_enter Try.func29, Try.ntmps29
    go_upto_region 1 with (fail)
    generalize w.alloc (.cells #[.bool false, .pointer none] 31) = w3 at *
    obtain ⟨B, hB⟩ : ∃ B, w.heap.size = B := ⟨_, rfl⟩
    rw [hB] at b1 ⊢
    have hc0 : ∀ k : InS (LC w B b false none 0 pl pr), k.w.cell? ⟨B, 0, none⟩ = some (.bool false) := fun k => k.h.2.1.c0
    have hc1 : ∀ k : InS (LC w B b false none 0 pl pr), k.w.cell? ⟨B, 1, none⟩ = some (.pointer none) := fun k => k.h.2.1.c1
    have hk0 : ∀ k : InS (LC w B b false none 0 pl pr), k.w.cell? ⟨b, 0, none⟩ = some (.int .i64 0) := fun k => k.h.2.2.c0
    refine region_in (S := LC w B b false none 0 pl pr) (by kernel_rfl) (by kernel_rfl) ⟨bdrew hb, b1.drew, hn.drew⟩ ?_
    have hne : Nonempty (InS (LC w B b false none 0 pl pr)) := ⟨⟨w3.drew, ⟨bdrew hb, b1.drew, hn.drew⟩⟩⟩
    repeat (go_big_quiet_step ((first
      | (go_at_call 24; rename_i kk; refine Calls.mono (isZero_is _ (HV.out.below kk.h.1) hz) ?_; rintro e wn ⟨rfl, hk⟩; exact ⟨rfl, ⟨wn, kk.h.below hk⟩, rfl⟩)
      | (go_at_call 25; rename_i kk; refine Calls.mono (isOne_is _ (HV.out.below kk.h.1) ho) ?_; rintro e wn ⟨rfl, hk⟩; exact ⟨rfl, ⟨wn, kk.h.below hk⟩, rfl⟩)
      | (go_at_call 20; rename_i kk; refine Calls.mono (depth_any _ (HV.out.below kk.h.1) (by omega)) ?_; rintro e wn ⟨rfl, hk⟩; exact ⟨rfl, ⟨wn, kk.h.below hk⟩, rfl⟩)
      | (go_at_call 60; rename_i kk; refine Calls.mono (rdepth_any _ (HR.out.below kk.h.1) (by omega)) ?_; rintro e wn ⟨rfl, hk⟩; exact ⟨rfl, ⟨wn, kk.h.below hk⟩, rfl⟩)
      | (go_at_call 30; rename_i kk; refine Calls.mono (text_any _ hts (HV.out.below kk.h.1)) ?_; rintro e wn ⟨rfl, hk⟩; exact ⟨rfl, ⟨wn, kk.h.below hk⟩, rfl⟩)
      | (go_at_call 40; rename_i kk; refine Calls.mono (rtext_any _ hts (HR.out.below kk.h.1)) ?_; rintro e wn ⟨rfl, hk⟩; exact ⟨rfl, ⟨wn, kk.h.below hk⟩, rfl⟩))))
    refine wpQuiet_nil ?_
    rintro _ ⟨⟨wk, hk⟩, rfl⟩
    go_upto_region 3 with (fail)
    refine region_in (S := LC w B b false none 0 pl pr) (by kernel_rfl) (by kernel_rfl) ⟨bdrew hk.1, hk.2.1.drew, hk.2.2.drew⟩ ?_
    have hne : Nonempty (InS (LC w B b false none 0 pl pr)) := ⟨⟨_, ⟨bdrew hk.1, hk.2.1.drew, hk.2.2.drew⟩⟩⟩
    repeat (go_big_quiet_step ((first
      | (go_at_call 32; rename_i kk; refine Calls.mono (left_leaf_z _) ?_; rintro e wn ⟨rfl, hk⟩; exact ⟨rfl, ⟨wn, kk.h.below hk⟩, rfl⟩)
      | (go_at_call 33; rename_i kk; refine Calls.mono (right_leaf_z _) ?_; rintro e wn ⟨rfl, hk⟩; exact ⟨rfl, ⟨wn, kk.h.below hk⟩, rfl⟩)
      | (go_at_call 35; rename_i kk; refine Calls.mono (same_leaf_z _) ?_; rintro e wn ⟨rfl, hk⟩; exact ⟨rfl, ⟨wn, kk.h.below hk⟩, rfl⟩))))
    refine wpQuiet_nil ?_
    rintro _ ⟨⟨wl, hl⟩, rfl⟩
    go_wp2_with fail
    go_ret
    exact ⟨by trivial, by first | exact hl.1 | (rw [← hB]; exact hl.1)⟩
  | .o, v, p, w, hd, h, hr => by
    have HV := Lib.hid h
    have HR := Lib.hid hr
    obtain rfl := h
    obtain ⟨b, pl, pr, rfl, hn⟩ := hr
    have hz : T.isZ T.o = false := rfl
    have ho : T.isO T.o = true := rfl
    have hts : (T.o).text.size ≤ 9223372036854775807 := by
      have h1 := T.text_size (T.o)
      have h2 : 2 ^ (T.depth (T.o)) ≤ 2 ^ 20 := Nat.pow_le_pow_right (by omega) hd
      omega
    have b1 := Bx.new w true none
    have hb := bel0 w (.cells #[.bool true, .pointer none] 31)
    have hn := hn.below hb
    go_enter Try.func29, Try.ntmps29
    go_upto_region 1 with (fail)
    generalize w.alloc (.cells #[.bool true, .pointer none] 31) = w3 at *
    obtain ⟨B, hB⟩ : ∃ B, w.heap.size = B := ⟨_, rfl⟩
    rw [hB] at b1 ⊢
    have hc0 : ∀ k : InS (LC w B b true none 1 pl pr), k.w.cell? ⟨B, 0, none⟩ = some (.bool true) := fun k => k.h.2.1.c0
    have hc1 : ∀ k : InS (LC w B b true none 1 pl pr), k.w.cell? ⟨B, 1, none⟩ = some (.pointer none) := fun k => k.h.2.1.c1
    have hk0 : ∀ k : InS (LC w B b true none 1 pl pr), k.w.cell? ⟨b, 0, none⟩ = some (.int .i64 1) := fun k => k.h.2.2.c0
    refine region_in (S := LC w B b true none 1 pl pr) (by kernel_rfl) (by kernel_rfl) ⟨bdrew hb, b1.drew, hn.drew⟩ ?_
    have hne : Nonempty (InS (LC w B b true none 1 pl pr)) := ⟨⟨w3.drew, ⟨bdrew hb, b1.drew, hn.drew⟩⟩⟩
    repeat (go_big_quiet_step ((first
      | (go_at_call 24; rename_i kk; refine Calls.mono (isZero_is _ (HV.out.below kk.h.1) hz) ?_; rintro e wn ⟨rfl, hk⟩; exact ⟨rfl, ⟨wn, kk.h.below hk⟩, rfl⟩)
      | (go_at_call 25; rename_i kk; refine Calls.mono (isOne_is _ (HV.out.below kk.h.1) ho) ?_; rintro e wn ⟨rfl, hk⟩; exact ⟨rfl, ⟨wn, kk.h.below hk⟩, rfl⟩)
      | (go_at_call 20; rename_i kk; refine Calls.mono (depth_any _ (HV.out.below kk.h.1) (by omega)) ?_; rintro e wn ⟨rfl, hk⟩; exact ⟨rfl, ⟨wn, kk.h.below hk⟩, rfl⟩)
      | (go_at_call 60; rename_i kk; refine Calls.mono (rdepth_any _ (HR.out.below kk.h.1) (by omega)) ?_; rintro e wn ⟨rfl, hk⟩; exact ⟨rfl, ⟨wn, kk.h.below hk⟩, rfl⟩)
      | (go_at_call 30; rename_i kk; refine Calls.mono (text_any _ hts (HV.out.below kk.h.1)) ?_; rintro e wn ⟨rfl, hk⟩; exact ⟨rfl, ⟨wn, kk.h.below hk⟩, rfl⟩)
      | (go_at_call 40; rename_i kk; refine Calls.mono (rtext_any _ hts (HR.out.below kk.h.1)) ?_; rintro e wn ⟨rfl, hk⟩; exact ⟨rfl, ⟨wn, kk.h.below hk⟩, rfl⟩))))
    refine wpQuiet_nil ?_
    rintro _ ⟨⟨wk, hk⟩, rfl⟩
    go_upto_region 3 with (fail)
    refine region_in (S := LC w B b true none 1 pl pr) (by kernel_rfl) (by kernel_rfl) ⟨bdrew hk.1, hk.2.1.drew, hk.2.2.drew⟩ ?_
    have hne : Nonempty (InS (LC w B b true none 1 pl pr)) := ⟨⟨_, ⟨bdrew hk.1, hk.2.1.drew, hk.2.2.drew⟩⟩⟩
    repeat (go_big_quiet_step ((first
      | (go_at_call 32; rename_i kk; refine Calls.mono (left_leaf_o _) ?_; rintro e wn ⟨rfl, hk⟩; exact ⟨rfl, ⟨wn, kk.h.below hk⟩, rfl⟩)
      | (go_at_call 33; rename_i kk; refine Calls.mono (right_leaf_o _) ?_; rintro e wn ⟨rfl, hk⟩; exact ⟨rfl, ⟨wn, kk.h.below hk⟩, rfl⟩)
      | (go_at_call 35; rename_i kk; refine Calls.mono (same_leaf_o _) ?_; rintro e wn ⟨rfl, hk⟩; exact ⟨rfl, ⟨wn, kk.h.below hk⟩, rfl⟩))))
    refine wpQuiet_nil ?_
    rintro _ ⟨⟨wl, hl⟩, rfl⟩
    go_wp2_with fail
    go_ret
    exact ⟨by trivial, by first | exact hl.1 | (rw [← hB]; exact hl.1)⟩
  | .n l r, v, p, w, hd, h, hr => by
    have i1 := fun (vx px : Value) (wx : World) hx hy => like_any (t := l) (v := vx) (p := px) wx (by simp only [T.depth] at hd; omega) hx hy
    have i2 := fun (vx px : Value) (wx : World) hx hy => like_any (t := r) (v := vx) (p := px) wx (by simp only [T.depth] at hd; omega) hx hy
    have I1 := Lib.hid i1
    have I2 := Lib.hid i2
    clear i1 i2
    have HV := Lib.hid h
    have HR := Lib.hid hr
    obtain ⟨c, x, px, y, py, rfl, hnd, hl1, hl2, _, _⟩ := h.node
    obtain ⟨b, pl, pr, rfl, hn, hr1, hr2⟩ := hr
    have HL1 := Lib.hid hl1
    have HL2 := Lib.hid hl2
    have HR1 := Lib.hid hr1
    have HR2 := Lib.hid hr2
    clear hl1 hl2 hr1 hr2 h
    have hz : T.isZ (T.n l r) = false := rfl
    have ho : T.isO (T.n l r) = false := rfl
    have hts : ((T.n l r)).text.size ≤ 9223372036854775807 := by
      have h1 := T.text_size ((T.n l r))
      have h2 : 2 ^ (T.depth ((T.n l r))) ≤ 2 ^ 20 := Nat.pow_le_pow_right (by omega) hd
      omega
    have b1 := Bx.new w false (some ⟨c, 0, none⟩)
    have hb := bel0 w (.cells #[.bool false, .pointer (some ⟨c, 0, none⟩)] 31)
    have hn := hn.below hb
    have hnd := hnd.below hb
    go_enter Try.func29, Try.ntmps29
    go_upto_region 1 with (fail)
    generalize w.alloc (.cells #[.bool false, .pointer (some ⟨c, 0, none⟩)] 31) = w3 at *
    obtain ⟨B, hB⟩ : ∃ B, w.heap.size = B := ⟨_, rfl⟩
    rw [hB] at b1 ⊢
    have hc0 : ∀ k : InS (LN w B b c 2 x px y py pl pr), k.w.cell? ⟨B, 0, none⟩ = some (.bool false) := fun k => k.h.2.1.c0
    have hc1 : ∀ k : InS (LN w B b c 2 x px y py pl pr), k.w.cell? ⟨B, 1, none⟩ = some (.pointer (some ⟨c, 0, none⟩)) := fun k => k.h.2.1.c1
    have hk0 : ∀ k : InS (LN w B b c 2 x px y py pl pr), k.w.cell? ⟨b, 0, none⟩ = some (.int .i64 2) := fun k => k.h.2.2.1.c0
    have hk1 : ∀ k : InS (LN w B b c 2 x px y py pl pr), k.w.cell? ⟨b, 1, none⟩ = some (.pointer pl) := fun k => k.h.2.2.1.c1
    have hk2 : ∀ k : InS (LN w B b c 2 x px y py pl pr), k.w.cell? ⟨b, 2, none⟩ = some (.pointer pr) := fun k => k.h.2.2.1.c2
    refine region_in (S := LN w B b c 2 x px y py pl pr) (by kernel_rfl) (by kernel_rfl) ⟨bdrew hb, b1.drew, hn.drew, hnd⟩ ?_
    have hne : Nonempty (InS (LN w B b c 2 x px y py pl pr)) := ⟨⟨w3.drew, ⟨bdrew hb, b1.drew, hn.drew, hnd⟩⟩⟩
    repeat (go_big_quiet_step ((first
      | (go_at_call 24; rename_i kk; refine Calls.mono (isZero_is _ (HV.out.below kk.h.1) hz) ?_; rintro e wn ⟨rfl, hk⟩; exact ⟨rfl, ⟨wn, kk.h.below hk⟩, rfl⟩)
      | (go_at_call 25; rename_i kk; refine Calls.mono (isOne_is _ (HV.out.below kk.h.1) ho) ?_; rintro e wn ⟨rfl, hk⟩; exact ⟨rfl, ⟨wn, kk.h.below hk⟩, rfl⟩)
      | (go_at_call 20; rename_i kk; refine Calls.mono (depth_any _ (HV.out.below kk.h.1) (by omega)) ?_; rintro e wn ⟨rfl, hk⟩; exact ⟨rfl, ⟨wn, kk.h.below hk⟩, rfl⟩)
      | (go_at_call 60; rename_i kk; refine Calls.mono (rdepth_any _ (HR.out.below kk.h.1) (by omega)) ?_; rintro e wn ⟨rfl, hk⟩; exact ⟨rfl, ⟨wn, kk.h.below hk⟩, rfl⟩)
      | (go_at_call 30; rename_i kk; refine Calls.mono (text_any _ hts (HV.out.below kk.h.1)) ?_; rintro e wn ⟨rfl, hk⟩; exact ⟨rfl, ⟨wn, kk.h.below hk⟩, rfl⟩)
      | (go_at_call 40; rename_i kk; refine Calls.mono (rtext_any _ hts (HR.out.below kk.h.1)) ?_; rintro e wn ⟨rfl, hk⟩; exact ⟨rfl, ⟨wn, kk.h.below hk⟩, rfl⟩))))
    refine wpQuiet_nil ?_
    rintro _ ⟨⟨wk, hk⟩, rfl⟩
    go_upto_region 3 with (fail)
    refine region_in (S := LN w B b c 2 x px y py pl pr) (by kernel_rfl) (by kernel_rfl) ⟨bdrew hk.1, hk.2.1.drew, hk.2.2.1.drew, hk.2.2.2⟩ ?_
    have hne : Nonempty (InS (LN w B b c 2 x px y py pl pr)) := ⟨⟨_, ⟨bdrew hk.1, hk.2.1.drew, hk.2.2.1.drew, hk.2.2.2⟩⟩⟩
    repeat (go_big_quiet_step ((first
      | (go_at_call 32; rename_i kk; refine Calls.mono (left_node _ (HV.out.below kk.h.1) kk.h.2.2.2) ?_; rintro e wn ⟨rfl, hk⟩; exact ⟨rfl, ⟨wn, kk.h.below hk⟩, rfl⟩)
      | (go_at_call 33; rename_i kk; refine Calls.mono (right_node _ (HV.out.below kk.h.1) kk.h.2.2.2) ?_; rintro e wn ⟨rfl, hk⟩; exact ⟨rfl, ⟨wn, kk.h.below hk⟩, rfl⟩)
      | (go_at_call_of 29 (Value.agg #[Value.bool x, Value.pointer px]); rename_i kk; refine Calls.mono (I1.out _ _ _ (HL1.out.below kk.h.1) (HR1.out.below kk.h.1)) ?_; rintro e wn ⟨rfl, hk⟩; exact ⟨rfl, ⟨wn, kk.h.below hk⟩, rfl⟩)
      | (go_at_call_of 29 (Value.agg #[Value.bool y, Value.pointer py]); rename_i kk; refine Calls.mono (I2.out _ _ _ (HL2.out.below kk.h.1) (HR2.out.below kk.h.1)) ?_; rintro e wn ⟨rfl, hk⟩; exact ⟨rfl, ⟨wn, kk.h.below hk⟩, rfl⟩))))
    refine wpQuiet_nil ?_
    rintro _ ⟨⟨wl, hl⟩, rfl⟩
    go_wp2_with fail
    go_ret
    exact ⟨by trivial, by first | exact hl.1 | (rw [← hB]; exact hl.1)⟩
end Go.Proofs.Ytigkjmfkpmehlaa
