/- kinfolkref03.Spans and Wide. -/
import Derived.Test.YtigkjmfkpmehlaaWide
import Derived.Test.YtigkjmfkpmehlaaMade3
import Derived.Laws.AppendOwnNone
import Derived.Deep.AppendLies
namespace Go.Proofs.Ytigkjmfkpmehlaa
open Go.RowKit

/-- The cells of a row of spans. -/
def sc : List (Nat × Nat) → List Value
  | [] => []
  | p :: r => .int .u64 (p.1 : Int) :: .int .u64 (p.2 : Int) :: sc r
theorem sc_len : ∀ xs : List (Nat × Nat), (sc xs).length = xs.length * 2
  | [] => rfl
  | p :: r => by simp only [sc, List.length_cons]; rw [sc_len r]; omega
theorem sc_append : ∀ xs ys : List (Nat × Nat), sc (xs ++ ys) = sc xs ++ sc ys
  | [], _ => rfl
  | p :: r, ys => by simp only [List.cons_append, sc]; rw [sc_append r ys]
theorem sc_one : ∀ (xs : List (Nat × Nat)), ∀ u ∈ sc xs, u.oneCell' = true
  | [], u, h => by simp [sc] at h
  | p :: r, u, h => by
    simp only [sc, List.mem_cons] at h
    rcases h with rfl | rfl | h
    · rfl
    · rfl
    · exact sc_one r u h
theorem sc_0 : ∀ (xs : List (Nat × Nat)) (i : Nat), (sc xs)[i * 2]? = (xs[i]?).map (fun p => .int .u64 (p.1 : Int))
  | [], i => by simp [sc]
  | p :: r, 0 => by simp [sc]
  | p :: r, i + 1 => by
    rw [show (i + 1) * 2 = i * 2 + 1 + 1 by omega]
    simp only [sc, List.getElem?_cons_succ]
    exact sc_0 r i
theorem sc_1 : ∀ (xs : List (Nat × Nat)) (i : Nat), (sc xs)[i * 2 + 1]? = (xs[i]?).map (fun p => .int .u64 (p.2 : Int))
  | [], i => by simp [sc]
  | p :: r, 0 => by simp [sc]
  | p :: r, i + 1 => by
    rw [show (i + 1) * 2 + 1 = i * 2 + 1 + 1 + 1 by omega]
    simp only [sc, List.getElem?_cons_succ]
    exact sc_1 r i
/-- A slice of spans that the walk owns. -/
def RS (w : World) (base : Nat) (v : Value) (xs : List (Nat × Nat)) : Prop := w.ownsRow base 70 2 v xs.length (sc xs) ∧ (xs = [] → v = .slice none 0 0)
theorem own_kept70 {w w' : World} {base : Nat} {v : Value} {n : Nat} {xs : List Value} (h : w.ownsRow base 70 2 v n xs) (hb : Below w.heap.size w w') : w'.ownsRow base 70 2 v n xs :=
  h.kept (row := none) ⟨hb.os, hb.tape, hb.output, hb.size, fun k hk _ => hb.block k hk⟩ (by cases hv : v.ownBlock with | none => exact .inl rfl | some g => exact .inr (by simp))
theorem RS.below {w w' : World} {base : Nat} {v : Value} {xs : List (Nat × Nat)} (h : RS w base v xs) (hb : Below w.heap.size w w') : RS w' base v xs := ⟨own_kept70 h.1 hb, h.2⟩
theorem RS.drew {w : World} {base : Nat} {v : Value} {xs : List (Nat × Nat)} (h : RS w base v xs) : RS w.drew base v xs := ⟨h.1, h.2⟩
theorem RS.base {w : World} {a b : Nat} {v : Value} {xs : List (Nat × Nat)} (h : RS w b v xs) (hab : a ≤ b) : RS w a v xs := by
  refine ⟨⟨h.1.1, ?_⟩, h.2⟩
  rcases h.1.2 with h | ⟨g, cap, cur, hv, hb, hr⟩
  · exact .inl h
  · exact .inr ⟨g, cap, cur, hv, Nat.le_trans hab hb, hr⟩
theorem RS.some {w : World} {base : Nat} {v : Value} {xs : List (Nat × Nat)} (h : RS w base v xs) (hx : 1 ≤ xs.length) : ∃ g cap, v = .slice (some ⟨g, 0, none⟩) xs.length cap ∧ ∀ j u, (sc xs)[j]? = some u → w.cell? ((⟨g, 0, none⟩ : Addr).add j) = some u := by
  have hc := fun g hg => h.1.cells (g := g) hg
  rcases h.1.2 with ⟨_, h0⟩ | ⟨g, cap, cur, rfl, _⟩
  · omega
  · exact ⟨g, cap, rfl, hc g rfl⟩
theorem RS.len {w : World} {base : Nat} {v : Value} {xs : List (Nat × Nat)} (h : RS w base v xs) : ∃ a cap, v = .slice a xs.length cap := by
  rcases h.1.2 with ⟨rfl, h0⟩ | ⟨g, cap, cur, rfl, _⟩
  · exact ⟨none, 0, by rw [h0]⟩
  · exact ⟨_, cap, rfl⟩
theorem info70 : (Try.prog.info? 70).map (fun i => (i.zero, i.size, i.bytes)) = some (some (.agg #[.int .u64 0, .int .u64 0]), 2, 16) := by kernel_rfl
def SpR (t : T) : Prop := ∀ (f w : Nat) (F W : Int) (v : Value) (wx : World), F = (f : Int) → W = (w : Int) → f + w < 2 ^ 60 → ct t ≤ 1000000 → RV wx t v →
  Calls Try.prog 43 #[v, .int .u64 F, .int .u64 W] wx fun e w' => ∃ u, e = .returned u ∧ RS w' wx.heap.size u (spN t f w) ∧ Below wx.heap.size wx w'
theorem rspans_z : SpR .z := by
  rintro f w _ _ v wx rfl rfl hfw hct h
  obtain ⟨b, pl, pr, rfl, hn⟩ := h
  have c0 := hn.c0
  go_enter Try.func43, Try.ntmps43
  go_wp2_with fail
  go_ret
  exact ⟨_, rfl, ⟨World.ownsRow_nil _ _ _ _, fun _ => rfl⟩, Below.refl _ _⟩
theorem rspans_o : SpR .o := by
  rintro f w _ _ v wx rfl rfl hfw hct h
  obtain ⟨b, pl, pr, rfl, hn⟩ := h
  have c0 := hn.c0
  go_enter Try.func43, Try.ntmps43
  go_wp2_with fail
  go_ret
  refine ⟨_, rfl, ⟨World.ownsRow_lit wx #[.int .u64 (f : Int), .int .u64 (w : Int)] 1 (Nat.le_refl _) (by unfold maxLen; omega) rfl, fun h => by simp [spN] at h⟩, bel0 _ _⟩
/-- The right half has some. -/
theorem step_append_none {P : Program} {w : World} {ops : Array Oper} {o : Oper} {a : Act} {K : Act → World → Prop} {Q : Exit → Act → World → Prop} {E : Prop} (hgd : o.guard = none) (s x : Operand) (t : TypeId)
    (ho : o.op = .call { callee := .builtin .append, args := #[s, x], argTypes := #[t, t] })
    (base : Nat) (e : TypeId) (i : TypeInfo) (size : Nat) (ht : P.underlying t = some (.slice e)) (hi : P.info? e = some i)
    (v : Value) (n : Nat) (xs : List Value) (hs : a.eval s = v) (hown : w.ownsRow base e size v n xs) (hx : a.eval x = .slice none 0 0) (h : K (a.put o.dst v) w) :
    if Region.wanted o (yielded ops a.tmps) = true then Oper.wp P o a w K Q else E := by
  have hw : Region.wanted o (yielded ops a.tmps) = true := by simp [Region.wanted, hgd]
  rw [if_pos hw]
  have hrun := run_append_owned_none (P := P) (w := w) base t o.type e i size ht hi v n xs hown
  unfold Oper.wp
  simp [execOp, ho, resolve, invoke, builtin, hs, hx, hrun, Result.andThen]
  exact h
theorem u64_half (w : Nat) (h : w < 2 ^ 60) : IntKind.u64.wrap ((w : Int) / 2) = ((w / 2 : Nat) : Int) := by rw [IntKind.wrap_u64]; omega
theorem u64_mid (f w : Nat) (h : f + w < 2 ^ 60) : IntKind.u64.wrap ((f : Int) + IntKind.u64.wrap ((w : Int) / 2)) = ((f + w / 2 : Nat) : Int) := by rw [u64_half w (by omega), IntKind.wrap_u64]; omega
set_option maxRecDepth 100000 in
set_option maxHeartbeats 3200000 in
theorem rspans_some {l r : T} (il : SpR l) (ir : SpR r) (hrr : 1 ≤ ct r) : SpR (.n l r) := by
  rintro f w _ _ v wx rfl rfl hfw hct h
  obtain ⟨b, pl, pr, rfl, hn, hl, hr⟩ := h
  have HL := Lib.hid hl
  have HR := Lib.hid hr
  unfold SpR at il ir
  have IL := Lib.hid il
  have IR := Lib.hid ir
  simp only [ct] at hct
  have cl : ct l ≤ 1000000 := by omega
  have cr : ct r ≤ 1000000 := by omega
  have hr1 : 1 ≤ (spN r (f + w / 2) (w / 2)).length := by rw [len_sp]; omega
  clear hl hr il ir
  obtain ⟨i0, hi0, hz0, hz1, hz2⟩ := info_parts info70
  have c0 := hn.c0
  have hlt := hn.lt
  have hb := Below.refl wx.heap.size wx
  go_enter Try.func43, Try.ntmps43
  go_upto_region 5 with (fail)
  have hb := bdrew hb
  have hn := hn.drew
  go_region_held3 (fun w' => w'.cell? ⟨b, 1, none⟩ = some (.pointer pl) ∧ w'.cell? ⟨b, 2, none⟩ = some (.pointer pr)) (exact ⟨hn.c1, hn.c2⟩)
    (first
    | (go_at_call_of 43 (Value.pointer pl); (with_reducible refine Calls.mono (IL.out f (w / 2) _ _ _ _ rfl (u64_half w (by omega)) (by omega) cl (HL.out.below hb)) ?_); rintro e wn ⟨u, rfl, hu, hkk⟩; obtain ⟨aA, cA, rfl⟩ := hu.len; have HA := Lib.hid (hu.base hb.size); have hb := hb.trans (hkk.mono hb.size); have hn := hn.below hkk; (try have HB := Lib.hid (HB.out.below hkk)); clear hu hkk)
    | (go_at_call_of 43 (Value.pointer pr); (with_reducible refine Calls.mono (IR.out (f + w / 2) (w / 2) _ _ _ _ (u64_mid f w (by omega)) (u64_half w (by omega)) (by omega) cr (HR.out.below hb)) ?_); rintro e wn ⟨u, rfl, hu, hkk⟩; obtain ⟨gB, cB, rfl, _⟩ := hu.some hr1; have HB := Lib.hid hu; have hb := hb.trans (hkk.mono hb.size); have hn := hn.below hkk; (try have HA := Lib.hid (HA.out.below hkk)); clear hu hkk)
    | ((refine step_append_lies _ (by rfl) _ _ _ (by rfl) wx.heap.size 70 i0 (.agg #[.int .u64 0, .int .u64 0]) 2 16 Try.underlying60 hi0 hz0 hz1 hz2 rfl (by omega) _ _ _ (by rfl) HA.out.1 ⟨gB, 0, none⟩ _ cB (sc (spN r (f + w / 2) (w / 2))) (by rfl) (sc_len _) (HB.out.1.cells (g := gB) rfl) (sc_one _) (by omega) (by rw [len_sp, len_sp]; unfold maxLen; omega) (by rw [len_sp, len_sp]; omega) hb.size _ rfl ?_); intro gg cap w1 hown' hgrow _ _; have hn : RN w1 b 2 pl pr := (hgrow.block b hn.lt (fun hh => by have := (HA.out.1.lt b hh.symm).1; omega)).trans hn))
  all_goals
    go_wp2_with fail
    go_ret
    refine ⟨_, rfl, ⟨?_, fun h0 => ?_⟩, hb.grown hgrow hb.size (fun k hk => (HA.out.1.lt k hk).1)⟩
    · rw [spN, sc_append, List.length_append]
      exact hown'
    · rw [spN] at h0
      have := congrArg List.length h0
      rw [List.length_append, List.length_nil] at this
      omega
set_option maxRecDepth 100000 in
set_option maxHeartbeats 3200000 in
theorem rspans_none {l r : T} (il : SpR l) (ir : SpR r) (hrr : ct r = 0) : SpR (.n l r) := by
  rintro f w _ _ v wx rfl rfl hfw hct h
  obtain ⟨b, pl, pr, rfl, hn, hl, hr⟩ := h
  have HL := Lib.hid hl
  have HR := Lib.hid hr
  unfold SpR at il ir
  have IL := Lib.hid il
  have IR := Lib.hid ir
  simp only [ct] at hct
  have cl : ct l ≤ 1000000 := by omega
  have cr : ct r ≤ 1000000 := by omega
  have hr0 : spN r (f + w / 2) (w / 2) = [] := List.eq_nil_of_length_eq_zero (by rw [len_sp]; omega)
  clear hl hr il ir
  obtain ⟨i0, hi0, hz0, hz1, hz2⟩ := info_parts info70
  have c0 := hn.c0
  have hlt := hn.lt
  have hb := Below.refl wx.heap.size wx
  go_enter Try.func43, Try.ntmps43
  go_upto_region 5 with (fail)
  have hb := bdrew hb
  have hn := hn.drew
  go_region_held3 (fun w' => w'.cell? ⟨b, 1, none⟩ = some (.pointer pl) ∧ w'.cell? ⟨b, 2, none⟩ = some (.pointer pr)) (exact ⟨hn.c1, hn.c2⟩)
    (first
    | (go_at_call_of 43 (Value.pointer pl); (with_reducible refine Calls.mono (IL.out f (w / 2) _ _ _ _ rfl (u64_half w (by omega)) (by omega) cl (HL.out.below hb)) ?_); rintro e wn ⟨u, rfl, hu, hkk⟩; obtain ⟨aA, cA, rfl⟩ := hu.len; have HA := Lib.hid (hu.base hb.size); have hb := hb.trans (hkk.mono hb.size); have hn := hn.below hkk; (try have HB := Lib.hid (HB.out.below hkk)); clear hu hkk)
    | (go_at_call_of 43 (Value.pointer pr); (with_reducible refine Calls.mono (IR.out (f + w / 2) (w / 2) _ _ _ _ (u64_mid f w (by omega)) (u64_half w (by omega)) (by omega) cr (HR.out.below hb)) ?_); rintro e wn ⟨u, rfl, hu, hkk⟩; obtain rfl := hu.2 hr0; have HB := Lib.hid hu; have hb := hb.trans (hkk.mono hb.size); have hn := hn.below hkk; (try have HA := Lib.hid (HA.out.below hkk)); clear hu hkk)
    | (refine step_append_none (by rfl) _ _ 60 (by rfl) wx.heap.size 70 i0 2 Try.underlying60 hi0 _ _ _ (by rfl) HA.out.1 (by rfl) ?_))
  all_goals
    go_wp2_with fail
    go_ret
    refine ⟨_, rfl, ⟨?_, fun h0 => ?_⟩, hb⟩
    · rw [spN, hr0, List.append_nil]
      exact HA.out.1
    · rw [spN, hr0, List.append_nil] at h0
      exact HA.out.2 h0
theorem rspans_any : ∀ t : T, SpR t
  | .z => rspans_z
  | .o => rspans_o
  | .n l r => by
    by_cases h : ct r = 0
    · exact rspans_none (rspans_any l) (rspans_any r) h
    · exact rspans_some (rspans_any l) (rspans_any r) (by omega)
end Go.Proofs.Ytigkjmfkpmehlaa
