/- share.halves, spans, Spans. -/
import Derived.Test.YtigkjmfkpmehlaaTurn
import Derived.Laws.OwnMore
import Derived.Deep.Onto
namespace Go.Proofs.Ytigkjmfkpmehlaa
open Go.RowKit

theorem run_fb {op : BinOp} {x y r : Nat} (hop : op = .quo ∨ op = .add) (h : floatBits op .f64 x y = some r) (w : World) : (binOp op 24 (.float .f64 x) (.float .f64 y)).run Try.prog w = .ok (.float .f64 r) w := by
  have := run_floatArith (P := Try.prog) w h
  rcases hop with rfl | rfl <;> simpa [binOp] using this
theorem halves_is {re im h s : Nat} (w : World) (hh : floatBits .quo .f64 im 4611686018427387904 = some h) (hs : floatBits .add .f64 re h = some s) :
    Calls Try.prog 84 #[.complex .f64 re im] w fun e w' => e = .returned (.tuple #[.complex .f64 re h, .complex .f64 s h]) ∧ w' = w := by
  have f1 := run_fb (.inl rfl) hh
  have f2 := run_fb (.inr rfl) hs
  clear hh hs
  go_enter Try.func84, Try.ntmps84
  go_wp2_with fail
  exact bodyPost_ret (v := .tuple #[.complex .f64 re h, .complex .f64 s h]) (by simp [results, go_sem, *]) rfl ⟨rfl, rfl⟩
/-- What spans comes to. -/
def spB : T → Nat → Nat → Option (List (Nat × Nat))
  | .z, _, _ => some []
  | .o, re, im => some [(re, im)]
  | .n l r, re, im => (floatBits .quo .f64 im 4611686018427387904).bind fun h => (floatBits .add .f64 re h).bind fun s => (spB l re h).bind fun a => (spB r s h).bind fun b => some (a ++ b)
def cx (p : Nat × Nat) : Value := .complex .f64 p.1 p.2
/-- Blocks below stay, and all that hold no complex numbers. -/
def Ck (base : Nat) (w w' : World) : Prop := Below base w w' ∧ ∀ (b : Nat) (cs : Array Value) (ty : TypeId), ty ≠ 23 → w.heap[b]? = some (.cells cs ty (0, 0)) → w'.heap[b]? = some (.cells cs ty (0, 0))
theorem Ck.refl (base : Nat) (w : World) : Ck base w w := ⟨Below.refl _ _, fun _ _ _ _ h => h⟩
theorem Ck.trans {base : Nat} {a b c : World} (h : Ck base a b) (k : Ck base b c) : Ck base a c := ⟨h.1.trans k.1, fun x cs ty ht hx => k.2 x cs ty ht (h.2 x cs ty ht hx)⟩
theorem Ck.of {base : Nat} {w w' : World} (hb : base ≤ w.heap.size) (h : Below w.heap.size w w') : Ck base w w' := ⟨h.mono hb, fun b _ _ _ hx => (h.block b (blk_lt hx)).trans hx⟩
theorem Ck.drew {base : Nat} {w : World} : Ck base w w.drew := ⟨bdrew (Below.refl _ _), fun _ _ _ _ h => h⟩
theorem Ck.bx {base : Nat} {w w' : World} {b : Nat} {a : Bool} {p : Option Addr} (h : Ck base w w') (k : Bx w b a p) : Bx w' b a p := h.2 b _ 31 (by decide) k
theorem Ck.kp {base : Nat} {w w' : World} (h : Ck base w w') : Kp w w' := fun b cs hb => h.2 b cs 85 (by decide) hb
theorem Ck.idv {base : Nat} {w w' : World} (h : Ck base w w') {t : T} {v : Value} (k : IDV w t v) : IDV w' t v := k.kp h.kp
theorem info23 : (Try.prog.info? 23).map (fun i => (i.zero, i.size, i.bytes)) = some (some (.complex .f64 0 0), 1, 16) := by kernel_rfl
theorem ck_grown {base : Nat} {w w' : World} {v : Value} {n : Nat} {xs : List Value} (hb : base ≤ w.heap.size) (h : w.ownsRow base 23 1 v n xs) (hg : w.grownBy w' v.ownBlock) : Ck base w w' := by
  refine ⟨(Below.refl base w).grown hg hb (fun k hk => (h.lt k hk).1), fun b cs ty ht hx => (hg.block b (blk_lt hx) ?_).trans hx⟩
  intro hv
  rcases h.2 with ⟨rfl, _⟩ | ⟨g, cap, cur, rfl, _, hgg, _⟩
  · simp [Value.ownBlock] at hv
  · simp only [Value.ownBlock, Option.some.injEq] at hv
    subst hv
    have := hx.symm.trans hgg
    simp at this
    exact ht this.2
theorem own_kept {w w' : World} {base : Nat} {v : Value} {n : Nat} {xs : List Value} (h : w.ownsRow base 23 1 v n xs) (hb : Below w.heap.size w w') : w'.ownsRow base 23 1 v n xs :=
  h.kept (row := none) ⟨hb.os, hb.tape, hb.output, hb.size, fun k hk _ => hb.block k hk⟩ (by cases hv : v.ownBlock with | none => exact .inl rfl | some g => exact .inr (by simp))
theorem one_new (w : World) (u : Value) (ty : TypeId) (hu : u.oneCell' = true) : ∀ j x, [u][j]? = some x → (w.alloc (.cells #[u] ty)).cell? ((⟨w.heap.size, 0, none⟩ : Addr).add j) = some x
  | 0, x, h => by
    simp only [List.getElem?_cons_zero, Option.some.injEq] at h
    subst h
    rw [Addr.add_lit]
    exact blk_cell (heap_alloc_new w _) 0
  | j + 1, x, h => by simp at h

/-- What spans is to be shown of a tree. -/
def SpOk (t : T) : Prop := ∀ (re im : Nat) (xs ys : List (Nat × Nat)) (base n : Nat) (u v : Value) (w : World), spB t re im = some xs → n = ys.length → n + xs.length ≤ 1000000 → base ≤ w.heap.size → IDV w t v → w.ownsRow base 23 1 u n (ys.map cx) →
  Calls Try.prog 71 #[u, v, .complex .f64 re im] w fun e w' => ∃ u', e = .returned u' ∧ w'.ownsRow base 23 1 u' (n + xs.length) ((ys ++ xs).map cx) ∧ Ck base w w'

set_option maxRecDepth 100000 in
set_option maxHeartbeats 3200000 in
theorem spans_z : SpOk .z := by
  intro re im xs ys base n u v w hsp hn hmax hb0 h hown
  obtain rfl := h
  obtain rfl : xs = [] := by simpa [spB] using hsp.symm
  have HO := Lib.hid hown
  clear hown
  have b1 := Bx.new w false none
  have hb := bel0 w (.cells #[.bool false, .pointer none] 31)
  have c10 := b1.c0
  have c11 := b1.c1
  go_enter Try.func71, Try.ntmps71
  go_wp2_with (go_at_call 24; refine Calls.mono (isZero_is _ (IDV.zero _) (rfl : _ = true)) ?_; rintro e wn ⟨rfl, hkk⟩; have hb := hb.trans (hkk.mono hb.size); clear hkk)
  go_ret
  refine ⟨_, rfl, ?_, Ck.of hb0 hb⟩
  simpa using own_kept HO.out hb
set_option maxRecDepth 100000 in
set_option maxHeartbeats 3200000 in
theorem spans_o : SpOk .o := by
  intro re im xs ys base n u v w hsp hn hmax hb0 h hown
  obtain rfl := h
  obtain rfl : xs = [(re, im)] := by simpa [spB] using hsp.symm
  simp only [List.length_cons, List.length_nil] at hmax ⊢
  have HO := Lib.hid hown
  clear hown
  obtain ⟨i0, hi0, hz0, hz1, hz2⟩ := info_parts info23
  have b1 := Bx.new w true none
  have hb := bel0 w (.cells #[.bool true, .pointer none] 31)
  have c10 := b1.c0
  have c11 := b1.c1
  have HO := Lib.hid (own_kept HO.out hb)
  go_enter Try.func71, Try.ntmps71
  go_wp2_with fail
  generalize w.alloc (.cells #[.bool true, .pointer none] 31) = w3 at *
  obtain ⟨B, hB⟩ : ∃ B, w.heap.size = B := ⟨_, rfl⟩
  rw [hB] at b1 c10 c11 ⊢
  go_wp2_with (first
    | (go_at_call 24; refine Calls.mono (isZero_is _ (IDV.one _) (rfl : _ = false)) ?_; rintro e wn ⟨rfl, hkk⟩; have hb := hb.trans (hkk.mono hb.size); have b1 := b1.below hkk; have HO := Lib.hid (own_kept HO.out hkk); clear c10 c11; have c10 := b1.c0; have c11 := b1.c1; clear hkk)
    | (go_at_call 25; refine Calls.mono (isOne_is _ (IDV.one _) (rfl : _ = true)) ?_; rintro e wn ⟨rfl, hkk⟩; have hb := hb.trans (hkk.mono hb.size); have b1 := b1.below hkk; have HO := Lib.hid (own_kept HO.out hkk); clear hkk)
    | (at_builtin; refine wpList_append_own_at _ rfl _ _ 67 rfl base 23 i0 (.complex .f64 0 0) 1 16 Try.underlying67 hi0 hz0 hz1 hz2 rfl (by decide) _ _ _ rfl (HO.out.alloc _) ⟨wn.heap.size, 0, none⟩ 1 1 [.complex .f64 re im] rfl rfl (one_new _ _ _ rfl) (fun x hx => by simp at hx; subst hx; rfl) (by unfold maxLen; omega) (by omega) (by have := hb.size; simp; omega) ?_; intro v' w1 hown' hgrow _ hat))
  go_ret
  refine ⟨_, rfl, ?_, (Ck.of hb0 (hb.alloc hb.size _)).trans (ck_grown (by have := hb.size; simp; omega) (HO.out.alloc _) hgrow)⟩
  rw [List.map_append]
  exact hown'
set_option maxRecDepth 100000 in
set_option maxHeartbeats 3200000 in
theorem spans_n {l r : T} (il : SpOk l) (ir : SpOk r) : SpOk (.n l r) := by
  intro re im xs ys base n u v w hsp hn hmax hb0 h hown
  simp only [spB] at hsp
  obtain ⟨hf, hh, hsp⟩ := bind_some hsp
  obtain ⟨sm, hs, hsp⟩ := bind_some hsp
  obtain ⟨xa, hxa, hsp⟩ := bind_some hsp
  obtain ⟨xb, hxb, hsp⟩ := bind_some hsp
  obtain rfl : xa ++ xb = xs := by simpa using hsp
  simp only [List.length_append] at hmax ⊢
  have HV := Lib.hid h
  obtain ⟨b, _, _, _, _, rfl, _⟩ := h.node
  unfold SpOk at il ir
  have IL := Lib.hid il
  have IR := Lib.hid ir
  have XA := Lib.hid hxa
  have XB := Lib.hid hxb
  have HH := Lib.hid hh
  have HS := Lib.hid hs
  have HN := Lib.hid hn
  have hlen1 : n + xa.length = (ys ++ xa).length := by rw [List.length_append, hn]
  have hmax1 : n + xa.length + xb.length ≤ 1000000 := by omega
  have hmax2 : n + xa.length ≤ 1000000 := by omega
  clear h il ir hxa hxb hh hs hsp hn
  have b1 := Bx.new w false (some ⟨b, 0, none⟩)
  have hbw := bel0 w (.cells #[.bool false, .pointer (some ⟨b, 0, none⟩)] 31)
  have ck := Ck.of hb0 hbw
  have HO := Lib.hid (own_kept hown hbw)
  have HV := Lib.hid (HV.out.below hbw)
  have hsz : base ≤ (w.alloc (.cells #[.bool false, .pointer (some ⟨b, 0, none⟩)] 31)).heap.size := by have := hbw.size; omega
  clear hown hbw
  have c10 := b1.c0
  have c11 := b1.c1
  go_enter Try.func71, Try.ntmps71
  go_wp2_with fail
  generalize w.alloc (.cells #[.bool false, .pointer (some ⟨b, 0, none⟩)] 31) = w3 at *
  obtain ⟨B, hB⟩ : ∃ B, w.heap.size = B := ⟨_, rfl⟩
  rw [hB] at b1 c10 c11 ⊢
  go_upto_region 6 with (first
    | (go_at_call 24; refine Calls.mono (isZero_is _ HV.out (rfl : _ = false)) ?_; rintro e wn ⟨rfl, hkk⟩; have ck := ck.trans (Ck.of hsz hkk); have b1 := b1.below hkk; have HV := Lib.hid (HV.out.below hkk); (try have HO := Lib.hid (own_kept HO.out hkk)); (try have HO2 := Lib.hid (own_kept HO2.out hkk)); have hsz := Nat.le_trans hsz hkk.size; clear hkk; clear c10 c11; have c10 := b1.c0; have c11 := b1.c1)
    | (go_at_call 25; refine Calls.mono (isOne_is _ HV.out (rfl : _ = false)) ?_; rintro e wn ⟨rfl, hkk⟩; have ck := ck.trans (Ck.of hsz hkk); have b1 := b1.below hkk; have HV := Lib.hid (HV.out.below hkk); (try have HO := Lib.hid (own_kept HO.out hkk)); (try have HO2 := Lib.hid (own_kept HO2.out hkk)); have hsz := Nat.le_trans hsz hkk.size; clear hkk; clear c10 c11; have c10 := b1.c0; have c11 := b1.c1)
    | (go_at_call 84; refine Calls.mono (halves_is _ HH.out HS.out) ?_; rintro e wz ⟨rfl, rfl⟩))
  have ck := ck.trans (Ck.drew (base := base) (w := wz))
  have b1 := b1.drew
  have HV := Lib.hid HV.out.drew
  have HO : Hid (wz.drew.ownsRow base 23 1 u n (ys.map cx)) := HO
  have hsz : base ≤ wz.drew.heap.size := hsz
  go_region_held3 (fun w' => w'.cell? ⟨B, 0, none⟩ = some (.bool false) ∧ w'.cell? ⟨B, 1, none⟩ = some (.pointer (some ⟨b, 0, none⟩))) (exact ⟨b1.c0, b1.c1⟩)
    (first
    | (go_at_call 32; refine Calls.mono (left_any _ HV.out) ?_; rintro e wn ⟨v, rfl, hv, hkk⟩; obtain ⟨oA, qA, rfl, _⟩ := hv.shape'; have HA : Hid (IDV wn l (Value.agg #[Value.bool oA, Value.pointer qA])) := Lib.hid hv; clear hv; have ck := ck.trans (Ck.of hsz hkk); have b1 := b1.below hkk; have HV := Lib.hid (HV.out.below hkk); (try have HO := Lib.hid (own_kept HO.out hkk)); (try have HO2 := Lib.hid (own_kept HO2.out hkk)); have hsz := Nat.le_trans hsz hkk.size; clear hkk)
    | (go_at_call 33; refine Calls.mono (right_any _ HV.out) ?_; rintro e wn ⟨v, rfl, hv, hkk⟩; obtain ⟨oC, qC, rfl, _⟩ := hv.shape'; have HC : Hid (IDV wn r (Value.agg #[Value.bool oC, Value.pointer qC])) := Lib.hid hv; clear hv; have ck := ck.trans (Ck.of hsz hkk); have b1 := b1.below hkk; have HV := Lib.hid (HV.out.below hkk); (try have HO := Lib.hid (own_kept HO.out hkk)); (try have HO2 := Lib.hid (own_kept HO2.out hkk)); have hsz := Nat.le_trans hsz hkk.size; clear hkk)
    | (go_at_call 71; first
        | ((with_reducible refine Calls.mono (IR.out sm hf xb (ys ++ xa) base (n + xa.length) _ _ _ XB.out hlen1 hmax1 hsz HC.out HO2.out) ?_); rintro e wn ⟨u2, rfl, ho2, hck⟩; have HO3 := Lib.hid ho2; have ck := ck.trans hck; have b1 := hck.bx b1; clear ho2 hck)
        | ((with_reducible refine Calls.mono (IL.out re hf xa ys base n _ _ _ XA.out HN.out hmax2 hsz HA.out HO.out) ?_); rintro e wn ⟨u1, rfl, ho1, hck⟩; have HO2 := Lib.hid ho1; have ck := ck.trans hck; have b1 := hck.bx b1; have HV := Lib.hid (hck.idv HV.out); have hsz := Nat.le_trans hsz hck.1.size; clear ho1 hck)))
  go_wp2_with fail
  go_ret
  refine ⟨_, rfl, ?_, ck⟩
  rw [← Nat.add_assoc, ← List.append_assoc]
  exact HO3.out
theorem spans_any : ∀ t : T, SpOk t
  | .z => spans_z
  | .o => spans_o
  | .n l r => spans_n (spans_any l) (spans_any r)
set_option maxHeartbeats 1600000 in
theorem Spans_any {t : T} {xs : List (Nat × Nat)} {v : Value} (w : World) (h : IDV w t v) (hsp : spB t 0 4607182418800017408 = some xs) (hmax : xs.length ≤ 1000000) :
    Calls Try.prog 49 #[v] w fun e w' => ∃ u, e = .returned u ∧ w'.ownsRow w.heap.size 23 1 u xs.length (xs.map cx) ∧ Below w.heap.size w w' := by
  obtain ⟨o, q, rfl, _⟩ := h.shape'
  have HV := Lib.hid h
  have HSP := Lib.hid hsp
  clear h hsp
  have hb := bel0 w (.cells #[.bool o, .pointer q] 31)
  go_enter Try.func49, Try.ntmps49
  go_wp2_with (go_at_call 71; refine Calls.mono (spans_any t 0 4607182418800017408 xs [] w.heap.size 0 _ _ _ HSP.out rfl (by omega) hb.size (HV.out.below hb) (World.ownsRow_nil _ _ _ _)) ?_; rintro e wn ⟨u, rfl, ho, hck⟩; have HO := Lib.hid ho; clear ho)
  go_ret
  refine ⟨_, rfl, ?_, hb.trans hck.1⟩
  have := HO.out
  rwa [Nat.zero_add, List.nil_append] at this
end Go.Proofs.Ytigkjmfkpmehlaa
