/- reader.id. (Printed by wip/ids/rid.py.) -/
import Derived.Test.YtigkjmfkpmehlaaRead
namespace Go.Proofs.Ytigkjmfkpmehlaa
open Go.RowKit

def T.isN : T → Bool | .n _ _ => true | _ => false
theorem IDV.one (w : World) : IDV w .o (Value.agg #[Value.bool true, Value.pointer none]) := rfl
/-- What reader.id comes to: the id, what is left, whether it went wrong. -/
def rid : Nat → List UInt8 → Bool → T × List UInt8 × Bool
  | _, l, true => (.z, l, true)
  | 0, l, false => (.z, l, true)
  | f + 1, l, false =>
    if (tk 48 l).2 = true then (.z, (tk 48 l).1, false)
    else if (tk 49 l).2 = true then (.o, (tk 49 l).1, false)
    else if (tk 40 l).2 = true then
      let r1 := rid f (tk 40 l).1 false
      let m := if r1.2.2 = true then (r1.2.1, true) else ((tk 44 r1.2.1).1, !(tk 44 r1.2.1).2)
      let r2 := rid f m.1 m.2
      let k := if r2.2.2 = true then (r2.2.1, true) else ((tk 41 r2.2.1).1, !(tk 41 r2.2.1).2)
      (T.pair r1.1 r2.1, k.1, k.2 || !(T.pair r1.1 r2.1).isN)
    else (.z, l, true)
theorem tk_len (c : UInt8) (l : List UInt8) : (tk c l).1.length ≤ l.length := by
  cases l with
  | nil => simp [tk]
  | cons x t =>
    simp only [tk]
    split <;> simp
theorem tk_yes {c : UInt8} {l : List UInt8} (h : (tk c l).2 = true) : l = c :: (tk c l).1 := by
  cases l with
  | nil => simp [tk] at h
  | cons x t =>
    simp only [tk] at h ⊢
    split at h
    · rename_i hx
      simp [hx]
    · simp at h
theorem tk_no {c : UInt8} {l : List UInt8} (h : (tk c l).2 = false) : tk c l = (l, false) := by
  cases l with
  | nil => rfl
  | cons x t =>
    simp only [tk] at h ⊢
    split at h
    · simp at h
    · rename_i hx
      simp [hx]
theorem rid_len : ∀ (f : Nat) (l : List UInt8) (b : Bool), (rid f l b).2.1.length ≤ l.length
  | 0, l, true => by simp [rid]
  | f + 1, l, true => by simp [rid]
  | 0, l, false => by simp [rid]
  | f + 1, l, false => by
    rw [rid]
    split
    · exact tk_len _ _
    · split
      · exact tk_len _ _
      · split
        · have h1 := rid_len f (tk 40 l).1 false
          have h0 := tk_len 40 l
          simp only
          generalize rid f (tk 40 l).1 false = r1 at *
          generalize hm : (if r1.2.2 = true then (r1.2.1, true) else ((tk 44 r1.2.1).1, !(tk 44 r1.2.1).2)) = m
          have hm1 : m.1.length ≤ r1.2.1.length := by
            subst hm
            split
            · simp
            · exact tk_len _ _
          have h2 := rid_len f m.1 m.2
          generalize rid f m.1 m.2 = r2 at *
          have h3 := tk_len 41 r2.2.1
          split
          · simp only
            omega
          · simp only
            omega
        · simp
theorem IDV.ptr {w : World} {t : T} {a : Bool} {p : Option Addr} (h : IDV w t (.agg #[.bool a, .pointer p])) : (t.isN = true → ∃ b, p = some ⟨b, 0, none⟩) ∧ (t.isN = false → p = none) := by
  cases t with
  | z => simp [IDV] at h; simp [T.isN, h]
  | o => simp [IDV] at h; simp [T.isN, h]
  | n l r =>
    obtain ⟨b, x, px, y, py, hv, _⟩ := h.node
    simp at hv
    simp [T.isN, hv]
/-- Behind the last store: the result's box is of no account. -/
theorem endp {R B : Nat} {w W : World} {c : Bool} {d : Option Addr} {s : ByteArray} {bad : Bool} {t : T} {v : Value} (hB : But R w W) (b1 : Bx W B c d) (hR : Rd W R s bad) (hv : IDV W t v) (h1 : w.heap.size ≤ B) (x : Bool) (y : Option Addr) :
    IDV ((W.setCell ⟨B, 0, none⟩ (.bool x)).setCell ⟨B, 1, none⟩ (.pointer y)) t v ∧ Rd ((W.setCell ⟨B, 0, none⟩ (.bool x)).setCell ⟨B, 1, none⟩ (.pointer y)) R s bad ∧ But R w ((W.setCell ⟨B, 0, none⟩ (.bool x)).setCell ⟨B, 1, none⟩ (.pointer y)) := by
  have hne : R ≠ B := by
    rintro rfl
    have := hR.symm.trans b1
    simp at this
  refine ⟨hv.kp (Kp.put b1 x y), (Below.heap_setCell _ _ _ _ hne).trans ((Below.heap_setCell _ _ _ _ hne).trans hR), hB.os, hB.tape, hB.output, ?_, ?_⟩
  · rw [ssz, ssz]
    exact hB.size
  · intro k hk hkR
    have hkB : k ≠ B := by omega
    exact (Below.heap_setCell _ _ _ _ hkB).trans ((Below.heap_setCell _ _ _ _ hkB).trans (hB.block k hk hkR))
def RidOk (f : Nat) (l : List UInt8) (bad : Bool) : Prop := ∀ (R : Nat) (w : World), Rd w R (bs l) bad → Calls Try.prog 58 #[.pointer (some ⟨R, 0, none⟩)] w fun e w' => ∃ v, e = .returned v ∧ IDV w' (rid f l bad).1 v ∧ Rd w' R (bs (rid f l bad).2.1) (rid f l bad).2.2 ∧ But R w w'

set_option maxHeartbeats 1600000 in
theorem rid_bad (f : Nat) (l : List UInt8) : RidOk f l true := by
  intro R w hR
  have rl0 := hR.lt
  have C48 : Hid (((48 : UInt8).toNat : Int) = 48) := Lib.hid rfl
  have C49 : Hid (((49 : UInt8).toNat : Int) = 49) := Lib.hid rfl
  have C40 : Hid (((40 : UInt8).toNat : Int) = 40) := Lib.hid rfl
  have C44 : Hid (((44 : UInt8).toNat : Int) = 44) := Lib.hid rfl
  have C41 : Hid (((41 : UInt8).toNat : Int) = 41) := Lib.hid rfl
  have HE := Lib.hid (show rid f l true = (.z, l, true) by cases f <;> rfl)
  rw [HE.out]
  have b1 := Bx.new w false none
  have hR := hR.alloc (.cells #[.bool false, .pointer none] 31)
  have hB : But R w (w.alloc (.cells #[.bool false, .pointer none] 31)) := But.of (bel0 w _)
  have hBl := rl0
  have rc0 := hR.c0
  have rc1 := hR.c1
  have rf0 := hR.f0
  have rf1 := hR.f1
  have rn := hR.ne
  have rl := hR.lt
  have c10 := b1.c0
  have c11 := b1.c1
  have f10 := b1.f0
  have f11 := b1.f1
  have n1 := b1.ne
  have l1 := b1.lt
  go_enter Try.func58, Try.ntmps58
  go_wp2_with fail
  generalize w.alloc (.cells #[.bool false, .pointer none] 31) = w3 at *
  obtain ⟨B, hBB⟩ : ∃ B, w.heap.size = B := ⟨_, rfl⟩
  rw [hBB] at b1 c10 c11 f10 f11 n1 l1 hBl ⊢
  have hRB : R ≠ B := by omega
  have hBR : B ≠ R := by omega
  go_wp2_with (first
    | (go_at_call 21; refine Calls.mono (zero_any _) ?_; rintro e wn ⟨v, rfl, rfl, hk⟩; have b1 := b1.below hk; have hB := hB.trans (But.of hk); have hR := hR.below hk; clear hk; clear rc0 rc1 rf0 rf1 rn rl c10 c11 f10 f11 n1 l1; have rc0 := hR.c0; have rc1 := hR.c1; have rf0 := hR.f0; have rf1 := hR.f1; have rn := hR.ne; have rl := hR.lt; have c10 := b1.c0; have c11 := b1.c1; have f10 := b1.f0; have f11 := b1.f1; have n1 := b1.ne; have l1 := b1.lt))
  have e0 := endp hB b1 hR (IDV.zero _) (by omega) false none
  exact bodyPost_ret (v := .agg #[.bool false, .pointer none]) (by simp [results, go_sem, *]) rfl ⟨_, rfl, e0⟩

set_option maxHeartbeats 1600000 in
theorem rid_0 (f : Nat) (l : List UInt8) (h : (tk 48 l).2 = true) : RidOk (f + 1) l false := by
  intro R w hR
  have rl0 := hR.lt
  have C48 : Hid (((48 : UInt8).toNat : Int) = 48) := Lib.hid rfl
  have C49 : Hid (((49 : UInt8).toNat : Int) = 49) := Lib.hid rfl
  have C40 : Hid (((40 : UInt8).toNat : Int) = 40) := Lib.hid rfl
  have C44 : Hid (((44 : UInt8).toNat : Int) = 44) := Lib.hid rfl
  have C41 : Hid (((41 : UInt8).toNat : Int) = 41) := Lib.hid rfl
  have HE := Lib.hid (show rid (f + 1) l false = (.z, (tk 48 l).1, false) by rw [rid, if_pos h])
  rw [HE.out]
  have T1 := Lib.hid (show tk 48 l = ((tk 48 l).1, true) by rw [← h])
  clear h
  have b1 := Bx.new w false none
  have hR := hR.alloc (.cells #[.bool false, .pointer none] 31)
  have hB : But R w (w.alloc (.cells #[.bool false, .pointer none] 31)) := But.of (bel0 w _)
  have hBl := rl0
  have rc0 := hR.c0
  have rc1 := hR.c1
  have rf0 := hR.f0
  have rf1 := hR.f1
  have rn := hR.ne
  have rl := hR.lt
  have c10 := b1.c0
  have c11 := b1.c1
  have f10 := b1.f0
  have f11 := b1.f1
  have n1 := b1.ne
  have l1 := b1.lt
  go_enter Try.func58, Try.ntmps58
  go_wp2_with fail
  generalize w.alloc (.cells #[.bool false, .pointer none] 31) = w3 at *
  obtain ⟨B, hBB⟩ : ∃ B, w.heap.size = B := ⟨_, rfl⟩
  rw [hBB] at b1 c10 c11 f10 f11 n1 l1 hBl ⊢
  have hRB : R ≠ B := by omega
  have hBR : B ≠ R := by omega
  go_wp2_with (first
    | (go_at_call_of 83 (Value.int IntKind.u8 48); with_reducible refine Calls.mono (take_is _ C48.out T1.out hR) ?_; rintro e wn ⟨rfl, hR1, hk⟩; have hR0 := hR; have hR := hR1; clear hR1; have b1 := b1.but hR0 hk; have hB := hB.trans hk; clear hk; clear rc0 rc1 rf0 rf1 rn rl c10 c11 f10 f11 n1 l1; have rc0 := hR.c0; have rc1 := hR.c1; have rf0 := hR.f0; have rf1 := hR.f1; have rn := hR.ne; have rl := hR.lt; have c10 := b1.c0; have c11 := b1.c1; have f10 := b1.f0; have f11 := b1.f1; have n1 := b1.ne; have l1 := b1.lt)
    | (go_at_call 21; refine Calls.mono (zero_any _) ?_; rintro e wn ⟨v, rfl, rfl, hk⟩; have b1 := b1.below hk; have hB := hB.trans (But.of hk); have hR := hR.below hk; clear hk; clear rc0 rc1 rf0 rf1 rn rl c10 c11 f10 f11 n1 l1; have rc0 := hR.c0; have rc1 := hR.c1; have rf0 := hR.f0; have rf1 := hR.f1; have rn := hR.ne; have rl := hR.lt; have c10 := b1.c0; have c11 := b1.c1; have f10 := b1.f0; have f11 := b1.f1; have n1 := b1.ne; have l1 := b1.lt))
  have e0 := endp hB b1 hR (IDV.zero _) (by omega) false none
  exact bodyPost_ret (v := .agg #[.bool false, .pointer none]) (by simp [results, go_sem, *]) rfl ⟨_, rfl, e0⟩

set_option maxHeartbeats 1600000 in
theorem rid_1 (f : Nat) (l : List UInt8) (h0 : (tk 48 l).2 = false) (h : (tk 49 l).2 = true) : RidOk (f + 1) l false := by
  intro R w hR
  have rl0 := hR.lt
  have C48 : Hid (((48 : UInt8).toNat : Int) = 48) := Lib.hid rfl
  have C49 : Hid (((49 : UInt8).toNat : Int) = 49) := Lib.hid rfl
  have C40 : Hid (((40 : UInt8).toNat : Int) = 40) := Lib.hid rfl
  have C44 : Hid (((44 : UInt8).toNat : Int) = 44) := Lib.hid rfl
  have C41 : Hid (((41 : UInt8).toNat : Int) = 41) := Lib.hid rfl
  have HE := Lib.hid (show rid (f + 1) l false = (.o, (tk 49 l).1, false) by rw [rid, if_neg (by rw [h0]; exact Bool.false_ne_true), if_pos h])
  rw [HE.out]
  have T0 := Lib.hid (tk_no h0)
  have T1 := Lib.hid (show tk 49 l = ((tk 49 l).1, true) by rw [← h])
  clear h h0
  have b1 := Bx.new w false none
  have hR := hR.alloc (.cells #[.bool false, .pointer none] 31)
  have hB : But R w (w.alloc (.cells #[.bool false, .pointer none] 31)) := But.of (bel0 w _)
  have hBl := rl0
  have rc0 := hR.c0
  have rc1 := hR.c1
  have rf0 := hR.f0
  have rf1 := hR.f1
  have rn := hR.ne
  have rl := hR.lt
  have c10 := b1.c0
  have c11 := b1.c1
  have f10 := b1.f0
  have f11 := b1.f1
  have n1 := b1.ne
  have l1 := b1.lt
  go_enter Try.func58, Try.ntmps58
  go_wp2_with fail
  generalize w.alloc (.cells #[.bool false, .pointer none] 31) = w3 at *
  obtain ⟨B, hBB⟩ : ∃ B, w.heap.size = B := ⟨_, rfl⟩
  rw [hBB] at b1 c10 c11 f10 f11 n1 l1 hBl ⊢
  have hRB : R ≠ B := by omega
  have hBR : B ≠ R := by omega
  go_wp2_with (first
    | (go_at_call_of 83 (Value.int IntKind.u8 48); with_reducible refine Calls.mono (take_is _ C48.out T0.out hR) ?_; rintro e wn ⟨rfl, hR1, hk⟩; have hR0 := hR; have hR := hR1; clear hR1; have b1 := b1.but hR0 hk; have hB := hB.trans hk; clear hk; clear rc0 rc1 rf0 rf1 rn rl c10 c11 f10 f11 n1 l1; have rc0 := hR.c0; have rc1 := hR.c1; have rf0 := hR.f0; have rf1 := hR.f1; have rn := hR.ne; have rl := hR.lt; have c10 := b1.c0; have c11 := b1.c1; have f10 := b1.f0; have f11 := b1.f1; have n1 := b1.ne; have l1 := b1.lt)
    | (go_at_call_of 83 (Value.int IntKind.u8 49); with_reducible refine Calls.mono (take_is _ C49.out T1.out hR) ?_; rintro e wn ⟨rfl, hR1, hk⟩; have hR0 := hR; have hR := hR1; clear hR1; have b1 := b1.but hR0 hk; have hB := hB.trans hk; clear hk; clear rc0 rc1 rf0 rf1 rn rl c10 c11 f10 f11 n1 l1; have rc0 := hR.c0; have rc1 := hR.c1; have rf0 := hR.f0; have rf1 := hR.f1; have rn := hR.ne; have rl := hR.lt; have c10 := b1.c0; have c11 := b1.c1; have f10 := b1.f0; have f11 := b1.f1; have n1 := b1.ne; have l1 := b1.lt)
    | (go_at_call 18; refine Calls.mono (one_any _) ?_; rintro e wn ⟨v, rfl, rfl, hk⟩; have b1 := b1.below hk; have hB := hB.trans (But.of hk); have hR := hR.below hk; clear hk; clear rc0 rc1 rf0 rf1 rn rl c10 c11 f10 f11 n1 l1; have rc0 := hR.c0; have rc1 := hR.c1; have rf0 := hR.f0; have rf1 := hR.f1; have rn := hR.ne; have rl := hR.lt; have c10 := b1.c0; have c11 := b1.c1; have f10 := b1.f0; have f11 := b1.f1; have n1 := b1.ne; have l1 := b1.lt))
  have e0 := endp hB b1 hR (IDV.one _) (by omega) true none
  exact bodyPost_ret (v := .agg #[.bool true, .pointer none]) (by simp [results, go_sem, *]) rfl ⟨_, rfl, e0⟩

set_option maxHeartbeats 1600000 in
theorem rid_x (f : Nat) (l : List UInt8) (h0 : (tk 48 l).2 = false) (h1 : (tk 49 l).2 = false) (h2 : (tk 40 l).2 = false) : RidOk (f + 1) l false := by
  intro R w hR
  have rl0 := hR.lt
  have C48 : Hid (((48 : UInt8).toNat : Int) = 48) := Lib.hid rfl
  have C49 : Hid (((49 : UInt8).toNat : Int) = 49) := Lib.hid rfl
  have C40 : Hid (((40 : UInt8).toNat : Int) = 40) := Lib.hid rfl
  have C44 : Hid (((44 : UInt8).toNat : Int) = 44) := Lib.hid rfl
  have C41 : Hid (((41 : UInt8).toNat : Int) = 41) := Lib.hid rfl
  have HE := Lib.hid (show rid (f + 1) l false = (.z, l, true) by rw [rid, if_neg (by rw [h0]; exact Bool.false_ne_true), if_neg (by rw [h1]; exact Bool.false_ne_true), if_neg (by rw [h2]; exact Bool.false_ne_true)])
  rw [HE.out]
  have T0 := Lib.hid (tk_no h0)
  have T1 := Lib.hid (tk_no h1)
  have T2 := Lib.hid (tk_no h2)
  clear h0 h1 h2
  have b1 := Bx.new w false none
  have hR := hR.alloc (.cells #[.bool false, .pointer none] 31)
  have hB : But R w (w.alloc (.cells #[.bool false, .pointer none] 31)) := But.of (bel0 w _)
  have hBl := rl0
  have rc0 := hR.c0
  have rc1 := hR.c1
  have rf0 := hR.f0
  have rf1 := hR.f1
  have rn := hR.ne
  have rl := hR.lt
  have c10 := b1.c0
  have c11 := b1.c1
  have f10 := b1.f0
  have f11 := b1.f1
  have n1 := b1.ne
  have l1 := b1.lt
  go_enter Try.func58, Try.ntmps58
  go_wp2_with fail
  generalize w.alloc (.cells #[.bool false, .pointer none] 31) = w3 at *
  obtain ⟨B, hBB⟩ : ∃ B, w.heap.size = B := ⟨_, rfl⟩
  rw [hBB] at b1 c10 c11 f10 f11 n1 l1 hBl ⊢
  have hRB : R ≠ B := by omega
  have hBR : B ≠ R := by omega
  go_upto_region 15 with (first
    | (go_at_call_of 83 (Value.int IntKind.u8 48); with_reducible refine Calls.mono (take_is _ C48.out T0.out hR) ?_; rintro e wn ⟨rfl, hR1, hk⟩; have hR0 := hR; have hR := hR1; clear hR1; have b1 := b1.but hR0 hk; have hB := hB.trans hk; clear hk; clear rc0 rc1 rf0 rf1 rn rl c10 c11 f10 f11 n1 l1; have rc0 := hR.c0; have rc1 := hR.c1; have rf0 := hR.f0; have rf1 := hR.f1; have rn := hR.ne; have rl := hR.lt; have c10 := b1.c0; have c11 := b1.c1; have f10 := b1.f0; have f11 := b1.f1; have n1 := b1.ne; have l1 := b1.lt)
    | (go_at_call_of 83 (Value.int IntKind.u8 49); with_reducible refine Calls.mono (take_is _ C49.out T1.out hR) ?_; rintro e wn ⟨rfl, hR1, hk⟩; have hR0 := hR; have hR := hR1; clear hR1; have b1 := b1.but hR0 hk; have hB := hB.trans hk; clear hk; clear rc0 rc1 rf0 rf1 rn rl c10 c11 f10 f11 n1 l1; have rc0 := hR.c0; have rc1 := hR.c1; have rf0 := hR.f0; have rf1 := hR.f1; have rn := hR.ne; have rl := hR.lt; have c10 := b1.c0; have c11 := b1.c1; have f10 := b1.f0; have f11 := b1.f1; have n1 := b1.ne; have l1 := b1.lt)
    | (go_at_call_of 83 (Value.int IntKind.u8 40); with_reducible refine Calls.mono (take_is _ C40.out T2.out hR) ?_; rintro e wn ⟨rfl, hR1, hk⟩; have hR0 := hR; have hR := hR1; clear hR1; have b1 := b1.but hR0 hk; have hB := hB.trans hk; clear hk; clear rc0 rc1 rf0 rf1 rn rl c10 c11 f10 f11 n1 l1; have rc0 := hR.c0; have rc1 := hR.c1; have rf0 := hR.f0; have rf1 := hR.f1; have rn := hR.ne; have rl := hR.lt; have c10 := b1.c0; have c11 := b1.c1; have f10 := b1.f0; have f11 := b1.f1; have n1 := b1.ne; have l1 := b1.lt))
  have b1 := b1.but hR (But.set (w := wn) (R := R) (o := 1) (.bool true))
  have hB := hB.trans (But.set (w := wn) (R := R) (o := 1) (.bool true))
  have hR := hR.set1 true
  clear rc0 rc1 rf0 rf1 rn rl c10 c11 f10 f11 n1 l1
  generalize wn.setCell ⟨R, 1, none⟩ (.bool true) = wn at *
  have rc0 := hR.c0
  have rc1 := hR.c1
  have rf0 := hR.f0
  have rf1 := hR.f1
  have rn := hR.ne
  have rl := hR.lt
  have c10 := b1.c0
  have c11 := b1.c1
  have f10 := b1.f0
  have f11 := b1.f1
  have n1 := b1.ne
  have l1 := b1.lt
  go_wp2_with (first
    | (go_at_call 21; refine Calls.mono (zero_any _) ?_; rintro e wn ⟨v, rfl, rfl, hk⟩; have b1 := b1.below hk; have hB := hB.trans (But.of hk); have hR := hR.below hk; clear hk; clear rc0 rc1 rf0 rf1 rn rl c10 c11 f10 f11 n1 l1; have rc0 := hR.c0; have rc1 := hR.c1; have rf0 := hR.f0; have rf1 := hR.f1; have rn := hR.ne; have rl := hR.lt; have c10 := b1.c0; have c11 := b1.c1; have f10 := b1.f0; have f11 := b1.f1; have n1 := b1.ne; have l1 := b1.lt))
  have e0 := endp hB b1 hR (IDV.zero _) (by omega) false none
  exact bodyPost_ret (v := .agg #[.bool false, .pointer none]) (by simp [results, go_sem, *]) rfl ⟨_, rfl, e0⟩

set_option maxHeartbeats 1600000 in
theorem rid_p1 (f : Nat) (l : List UInt8) (h0 : (tk 48 l).2 = false) (h1 : (tk 49 l).2 = false) (h2 : (tk 40 l).2 = true) (tA tX : T) (lA lX : List UInt8) (hA : rid f (tk 40 l).1 false = (tA, lA, true)) (hX : rid f lA true = (tX, lX, true)) (i1 : RidOk f (tk 40 l).1 false) (i2 : RidOk f lA true) : RidOk (f + 1) l false := by
  intro R w hR
  have rl0 := hR.lt
  have C48 : Hid (((48 : UInt8).toNat : Int) = 48) := Lib.hid rfl
  have C49 : Hid (((49 : UInt8).toNat : Int) = 49) := Lib.hid rfl
  have C40 : Hid (((40 : UInt8).toNat : Int) = 40) := Lib.hid rfl
  have C44 : Hid (((44 : UInt8).toNat : Int) = 44) := Lib.hid rfl
  have C41 : Hid (((41 : UInt8).toNat : Int) = 41) := Lib.hid rfl
  have HE := Lib.hid (show rid (f + 1) l false = (T.pair tA tX, lX, true) by
    rw [rid, if_neg (by rw [h0]; exact Bool.false_ne_true), if_neg (by rw [h1]; exact Bool.false_ne_true), if_pos h2]
    simp [hA, hX])
  rw [HE.out]
  have T0 := Lib.hid (tk_no h0)
  have T1 := Lib.hid (tk_no h1)
  have T2 := Lib.hid (show tk 40 l = ((tk 40 l).1, true) by rw [← h2])
  have i1 := i1 R
  rw [hA] at i1
  have i2 := i2 R
  rw [hX] at i2
  have I1 := Lib.hid i1
  have I2 := Lib.hid i2
  clear h0 h1 h2 i1 i2 hA hX
  have b1 := Bx.new w false none
  have hR := hR.alloc (.cells #[.bool false, .pointer none] 31)
  have hB : But R w (w.alloc (.cells #[.bool false, .pointer none] 31)) := But.of (bel0 w _)
  have hBl := rl0
  have rc0 := hR.c0
  have rc1 := hR.c1
  have rf0 := hR.f0
  have rf1 := hR.f1
  have rn := hR.ne
  have rl := hR.lt
  have c10 := b1.c0
  have c11 := b1.c1
  have f10 := b1.f0
  have f11 := b1.f1
  have n1 := b1.ne
  have l1 := b1.lt
  go_enter Try.func58, Try.ntmps58
  go_wp2_with fail
  generalize w.alloc (.cells #[.bool false, .pointer none] 31) = w3 at *
  obtain ⟨B, hBB⟩ : ∃ B, w.heap.size = B := ⟨_, rfl⟩
  rw [hBB] at b1 c10 c11 f10 f11 n1 l1 hBl ⊢
  have hRB : R ≠ B := by omega
  have hBR : B ≠ R := by omega
  go_upto_region 9 with (first
    | (go_at_call_of 83 (Value.int IntKind.u8 48); with_reducible refine Calls.mono (take_is _ C48.out T0.out hR) ?_; rintro e wn ⟨rfl, hR1, hk⟩; have hR0 := hR; have hR := hR1; clear hR1; have b1 := b1.but hR0 hk; have hB := hB.trans hk; clear hk; clear rc0 rc1 rf0 rf1 rn rl c10 c11 f10 f11 n1 l1; have rc0 := hR.c0; have rc1 := hR.c1; have rf0 := hR.f0; have rf1 := hR.f1; have rn := hR.ne; have rl := hR.lt; have c10 := b1.c0; have c11 := b1.c1; have f10 := b1.f0; have f11 := b1.f1; have n1 := b1.ne; have l1 := b1.lt)
    | (go_at_call_of 83 (Value.int IntKind.u8 49); with_reducible refine Calls.mono (take_is _ C49.out T1.out hR) ?_; rintro e wn ⟨rfl, hR1, hk⟩; have hR0 := hR; have hR := hR1; clear hR1; have b1 := b1.but hR0 hk; have hB := hB.trans hk; clear hk; clear rc0 rc1 rf0 rf1 rn rl c10 c11 f10 f11 n1 l1; have rc0 := hR.c0; have rc1 := hR.c1; have rf0 := hR.f0; have rf1 := hR.f1; have rn := hR.ne; have rl := hR.lt; have c10 := b1.c0; have c11 := b1.c1; have f10 := b1.f0; have f11 := b1.f1; have n1 := b1.ne; have l1 := b1.lt)
    | (go_at_call_of 83 (Value.int IntKind.u8 40); with_reducible refine Calls.mono (take_is _ C40.out T2.out hR) ?_; rintro e wn ⟨rfl, hR1, hk⟩; have hR0 := hR; have hR := hR1; clear hR1; have b1 := b1.but hR0 hk; have hB := hB.trans hk; clear hk; clear rc0 rc1 rf0 rf1 rn rl c10 c11 f10 f11 n1 l1; have rc0 := hR.c0; have rc1 := hR.c1; have rf0 := hR.f0; have rf1 := hR.f1; have rn := hR.ne; have rl := hR.lt; have c10 := b1.c0; have c11 := b1.c1; have f10 := b1.f0; have f11 := b1.f1; have n1 := b1.ne; have l1 := b1.lt)
    | (go_at_call 58; with_reducible refine Calls.mono (I1.out _ hR) ?_; rintro e wn ⟨v, rfl, hv, hR1, hk⟩; obtain ⟨oA, qA, rfl, hoA⟩ := hv.shape'; have HA := Lib.hid hv; clear hv; have hR0 := hR; have hR := hR1; clear hR1; have b1 := b1.but hR0 hk; have hB := hB.trans hk; clear hk; clear rc0 rc1 rf0 rf1 rn rl c10 c11 f10 f11 n1 l1; have rc0 := hR.c0; have rc1 := hR.c1; have rf0 := hR.f0; have rf1 := hR.f1; have rn := hR.ne; have rl := hR.lt; have c10 := b1.c0; have c11 := b1.c1; have f10 := b1.f0; have f11 := b1.f1; have n1 := b1.ne; have l1 := b1.lt))
  have b2 := Bx.new wn oA qA
  have hRD : R ≠ wn.heap.size := by have := hR.lt; omega
  have hDR : wn.heap.size ≠ R := Ne.symm hRD
  have hDB : wn.heap.size ≠ B := by have := b1.lt; omega
  have b1 := b1.alloc (.cells #[.bool oA, .pointer qA] 31)
  have HA := Lib.hid (HA.out.alloc (.cells #[.bool oA, .pointer qA] 31))
  have hB := hB.trans (But.of (bel0 _ (.cells #[.bool oA, .pointer qA] 31)))
  have hR := hR.alloc (.cells #[.bool oA, .pointer qA] 31)
  clear rc0 rc1 rf0 rf1 rn rl c10 c11 f10 f11 n1 l1
  generalize wn.alloc (.cells #[.bool oA, .pointer qA] 31) = wz at *
  obtain ⟨D, eD⟩ : ∃ D, wn.heap.size = D := ⟨_, rfl⟩
  rw [eD] at b2 hRD hDR hDB ⊢
  have rc0 := hR.c0
  have rc1 := hR.c1
  have rf0 := hR.f0
  have rf1 := hR.f1
  have rn := hR.ne
  have rl := hR.lt
  have c10 := b1.c0
  have c11 := b1.c1
  have f10 := b1.f0
  have f11 := b1.f1
  have n1 := b1.ne
  have l1 := b1.lt
  have c20 := b2.c0
  have c21 := b2.c1
  have f20 := b2.f0
  have f21 := b2.f1
  have n2 := b2.ne
  have l2 := b2.lt
  go_upto_region 10 with (fail)
  have b1 := b1.but hR (But.set (w := wz) (R := R) (o := 1) (.bool true))
  have b2 := b2.but hR (But.set (w := wz) (R := R) (o := 1) (.bool true))
  have HA := Lib.hid (HA.out.but hR (But.set (w := wz) (R := R) (o := 1) (.bool true)))
  have hB := hB.trans (But.set (w := wz) (R := R) (o := 1) (.bool true))
  have hR := hR.set1 true
  clear rc0 rc1 rf0 rf1 rn rl c10 c11 f10 f11 n1 l1 c20 c21 f20 f21 n2 l2
  generalize wz.setCell ⟨R, 1, none⟩ (.bool true) = wn at *
  have rc0 := hR.c0
  have rc1 := hR.c1
  have rf0 := hR.f0
  have rf1 := hR.f1
  have rn := hR.ne
  have rl := hR.lt
  have c10 := b1.c0
  have c11 := b1.c1
  have f10 := b1.f0
  have f11 := b1.f1
  have n1 := b1.ne
  have l1 := b1.lt
  have c20 := b2.c0
  have c21 := b2.c1
  have f20 := b2.f0
  have f21 := b2.f1
  have n2 := b2.ne
  have l2 := b2.lt
  go_upto_region 11 with (go_at_call 58; with_reducible refine Calls.mono (I2.out _ hR) ?_; rintro e wn ⟨v, rfl, hv, hR1, hk⟩; obtain ⟨oX, qX, rfl, hoX⟩ := hv.shape'; have HX := Lib.hid hv; clear hv; have hR0 := hR; have hR := hR1; clear hR1; have b1 := b1.but hR0 hk; have b2 := b2.but hR0 hk; have HA := Lib.hid (HA.out.but hR0 hk); have hB := hB.trans hk; clear hk; clear rc0 rc1 rf0 rf1 rn rl c10 c11 f10 f11 n1 l1 c20 c21 f20 f21 n2 l2; have rc0 := hR.c0; have rc1 := hR.c1; have rf0 := hR.f0; have rf1 := hR.f1; have rn := hR.ne; have rl := hR.lt; have c10 := b1.c0; have c11 := b1.c1; have f10 := b1.f0; have f11 := b1.f1; have n1 := b1.ne; have l1 := b1.lt; have c20 := b2.c0; have c21 := b2.c1; have f20 := b2.f0; have f21 := b2.f1; have n2 := b2.ne; have l2 := b2.lt)
  have b3 := Bx.new wn oX qX
  have hRE : R ≠ wn.heap.size := by have := hR.lt; omega
  have hER : wn.heap.size ≠ R := Ne.symm hRE
  have hEB : wn.heap.size ≠ B := by have := b1.lt; omega
  have hED : wn.heap.size ≠ D := by have := b2.lt; omega
  have b1 := b1.alloc (.cells #[.bool oX, .pointer qX] 31)
  have b2 := b2.alloc (.cells #[.bool oX, .pointer qX] 31)
  have HA := Lib.hid (HA.out.alloc (.cells #[.bool oX, .pointer qX] 31))
  have HX := Lib.hid (HX.out.alloc (.cells #[.bool oX, .pointer qX] 31))
  have hB := hB.trans (But.of (bel0 _ (.cells #[.bool oX, .pointer qX] 31)))
  have hR := hR.alloc (.cells #[.bool oX, .pointer qX] 31)
  clear rc0 rc1 rf0 rf1 rn rl c10 c11 f10 f11 n1 l1 c20 c21 f20 f21 n2 l2
  generalize wn.alloc (.cells #[.bool oX, .pointer qX] 31) = wz at *
  obtain ⟨E, eE⟩ : ∃ E, wn.heap.size = E := ⟨_, rfl⟩
  rw [eE] at b3 hRE hER hEB hED ⊢
  have rc0 := hR.c0
  have rc1 := hR.c1
  have rf0 := hR.f0
  have rf1 := hR.f1
  have rn := hR.ne
  have rl := hR.lt
  have c10 := b1.c0
  have c11 := b1.c1
  have f10 := b1.f0
  have f11 := b1.f1
  have n1 := b1.ne
  have l1 := b1.lt
  have c20 := b2.c0
  have c21 := b2.c1
  have f20 := b2.f0
  have f21 := b2.f1
  have n2 := b2.ne
  have l2 := b2.lt
  have c30 := b3.c0
  have c31 := b3.c1
  have f30 := b3.f0
  have f31 := b3.f1
  have n3 := b3.ne
  have l3 := b3.lt
  go_upto_region 12 with (fail)
  have b1 := b1.but hR (But.set (w := wz) (R := R) (o := 1) (.bool true))
  have b2 := b2.but hR (But.set (w := wz) (R := R) (o := 1) (.bool true))
  have b3 := b3.but hR (But.set (w := wz) (R := R) (o := 1) (.bool true))
  have HA := Lib.hid (HA.out.but hR (But.set (w := wz) (R := R) (o := 1) (.bool true)))
  have HX := Lib.hid (HX.out.but hR (But.set (w := wz) (R := R) (o := 1) (.bool true)))
  have hB := hB.trans (But.set (w := wz) (R := R) (o := 1) (.bool true))
  have hR := hR.set1 true
  clear rc0 rc1 rf0 rf1 rn rl c10 c11 f10 f11 n1 l1 c20 c21 f20 f21 n2 l2 c30 c31 f30 f31 n3 l3
  generalize wz.setCell ⟨R, 1, none⟩ (.bool true) = wn at *
  have rc0 := hR.c0
  have rc1 := hR.c1
  have rf0 := hR.f0
  have rf1 := hR.f1
  have rn := hR.ne
  have rl := hR.lt
  have c10 := b1.c0
  have c11 := b1.c1
  have f10 := b1.f0
  have f11 := b1.f1
  have n1 := b1.ne
  have l1 := b1.lt
  have c20 := b2.c0
  have c21 := b2.c1
  have f20 := b2.f0
  have f21 := b2.f1
  have n2 := b2.ne
  have l2 := b2.lt
  have c30 := b3.c0
  have c31 := b3.c1
  have f30 := b3.f0
  have f31 := b3.f1
  have n3 := b3.ne
  have l3 := b3.lt
  go_upto_region 13 with (go_at_call 57; with_reducible refine Calls.mono (pair_any _ HA.out HX.out) ?_; rintro e wn ⟨v, rfl, hv, hk⟩; obtain ⟨oI, qI, rfl, hoI⟩ := hv.shape'; have HI := Lib.hid hv; clear hv; have b1 := b1.below hk; have b2 := b2.below hk; have b3 := b3.below hk; have HA := Lib.hid (HA.out.below hk); have HX := Lib.hid (HX.out.below hk); have hB := hB.trans (But.of hk); have hR := hR.below hk; clear hk; clear rc0 rc1 rf0 rf1 rn rl c10 c11 f10 f11 n1 l1 c20 c21 f20 f21 n2 l2 c30 c31 f30 f31 n3 l3; have rc0 := hR.c0; have rc1 := hR.c1; have rf0 := hR.f0; have rf1 := hR.f1; have rn := hR.ne; have rl := hR.lt; have c10 := b1.c0; have c11 := b1.c1; have f10 := b1.f0; have f11 := b1.f1; have n1 := b1.ne; have l1 := b1.lt; have c20 := b2.c0; have c21 := b2.c1; have f20 := b2.f0; have f21 := b2.f1; have n2 := b2.ne; have l2 := b2.lt; have c30 := b3.c0; have c31 := b3.c1; have f30 := b3.f0; have f31 := b3.f1; have n3 := b3.ne; have l3 := b3.lt)
  have b4 := Bx.new wn oI qI
  have hRF : R ≠ wn.heap.size := by have := hR.lt; omega
  have hFR : wn.heap.size ≠ R := Ne.symm hRF
  have hFB : wn.heap.size ≠ B := by have := b1.lt; omega
  have hFD : wn.heap.size ≠ D := by have := b2.lt; omega
  have hFE : wn.heap.size ≠ E := by have := b3.lt; omega
  have b1 := b1.alloc (.cells #[.bool oI, .pointer qI] 31)
  have b2 := b2.alloc (.cells #[.bool oI, .pointer qI] 31)
  have b3 := b3.alloc (.cells #[.bool oI, .pointer qI] 31)
  have HI := Lib.hid (HI.out.alloc (.cells #[.bool oI, .pointer qI] 31))
  have hB := hB.trans (But.of (bel0 _ (.cells #[.bool oI, .pointer qI] 31)))
  have hR := hR.alloc (.cells #[.bool oI, .pointer qI] 31)
  clear rc0 rc1 rf0 rf1 rn rl c10 c11 f10 f11 n1 l1 c20 c21 f20 f21 n2 l2 c30 c31 f30 f31 n3 l3
  generalize wn.alloc (.cells #[.bool oI, .pointer qI] 31) = wz at *
  obtain ⟨F, eF⟩ : ∃ F, wn.heap.size = F := ⟨_, rfl⟩
  rw [eF] at b4 hRF hFR hFB hFD hFE ⊢
  have rc0 := hR.c0
  have rc1 := hR.c1
  have rf0 := hR.f0
  have rf1 := hR.f1
  have rn := hR.ne
  have rl := hR.lt
  have c10 := b1.c0
  have c11 := b1.c1
  have f10 := b1.f0
  have f11 := b1.f1
  have n1 := b1.ne
  have l1 := b1.lt
  have c20 := b2.c0
  have c21 := b2.c1
  have f20 := b2.f0
  have f21 := b2.f1
  have n2 := b2.ne
  have l2 := b2.lt
  have c30 := b3.c0
  have c31 := b3.c1
  have f30 := b3.f0
  have f31 := b3.f1
  have n3 := b3.ne
  have l3 := b3.lt
  have c40 := b4.c0
  have c41 := b4.c1
  have f40 := b4.f0
  have f41 := b4.f1
  have n4 := b4.ne
  have l4 := b4.lt
  go_wp2_with fail
  have e0 := endp (hB.trans (But.set (w := wz) (R := R) (o := 1) (.bool true))) (b1.but hR (But.set (w := wz) (R := R) (o := 1) (.bool true))) (hR.set1 true) (HI.out.but hR (But.set (w := wz) (R := R) (o := 1) (.bool true))) (by omega) oI qI
  exact bodyPost_ret (v := .agg #[.bool oI, .pointer qI]) (by simp [results, go_sem, *]) rfl ⟨_, rfl, e0⟩

set_option maxHeartbeats 1600000 in
theorem rid_p2 (f : Nat) (l : List UInt8) (h0 : (tk 48 l).2 = false) (h1 : (tk 49 l).2 = false) (h2 : (tk 40 l).2 = true) (tA tX : T) (lA lX : List UInt8) (hA : rid f (tk 40 l).1 false = (tA, lA, false)) (hX : rid f lA true = (tX, lX, true)) (hm : tk 44 lA = (lA, false)) (i1 : RidOk f (tk 40 l).1 false) (i2 : RidOk f lA true) : RidOk (f + 1) l false := by
  intro R w hR
  have rl0 := hR.lt
  have C48 : Hid (((48 : UInt8).toNat : Int) = 48) := Lib.hid rfl
  have C49 : Hid (((49 : UInt8).toNat : Int) = 49) := Lib.hid rfl
  have C40 : Hid (((40 : UInt8).toNat : Int) = 40) := Lib.hid rfl
  have C44 : Hid (((44 : UInt8).toNat : Int) = 44) := Lib.hid rfl
  have C41 : Hid (((41 : UInt8).toNat : Int) = 41) := Lib.hid rfl
  have HE := Lib.hid (show rid (f + 1) l false = (T.pair tA tX, lX, true) by
    rw [rid, if_neg (by rw [h0]; exact Bool.false_ne_true), if_neg (by rw [h1]; exact Bool.false_ne_true), if_pos h2]
    simp [hA, hX, hm])
  rw [HE.out]
  have T0 := Lib.hid (tk_no h0)
  have T1 := Lib.hid (tk_no h1)
  have T2 := Lib.hid (show tk 40 l = ((tk 40 l).1, true) by rw [← h2])
  have i1 := i1 R
  rw [hA] at i1
  have i2 := i2 R
  rw [hX] at i2
  have I1 := Lib.hid i1
  have I2 := Lib.hid i2
  have TM := Lib.hid hm
  clear h0 h1 h2 i1 i2 hA hX hm
  have b1 := Bx.new w false none
  have hR := hR.alloc (.cells #[.bool false, .pointer none] 31)
  have hB : But R w (w.alloc (.cells #[.bool false, .pointer none] 31)) := But.of (bel0 w _)
  have hBl := rl0
  have rc0 := hR.c0
  have rc1 := hR.c1
  have rf0 := hR.f0
  have rf1 := hR.f1
  have rn := hR.ne
  have rl := hR.lt
  have c10 := b1.c0
  have c11 := b1.c1
  have f10 := b1.f0
  have f11 := b1.f1
  have n1 := b1.ne
  have l1 := b1.lt
  go_enter Try.func58, Try.ntmps58
  go_wp2_with fail
  generalize w.alloc (.cells #[.bool false, .pointer none] 31) = w3 at *
  obtain ⟨B, hBB⟩ : ∃ B, w.heap.size = B := ⟨_, rfl⟩
  rw [hBB] at b1 c10 c11 f10 f11 n1 l1 hBl ⊢
  have hRB : R ≠ B := by omega
  have hBR : B ≠ R := by omega
  go_upto_region 9 with (first
    | (go_at_call_of 83 (Value.int IntKind.u8 48); with_reducible refine Calls.mono (take_is _ C48.out T0.out hR) ?_; rintro e wn ⟨rfl, hR1, hk⟩; have hR0 := hR; have hR := hR1; clear hR1; have b1 := b1.but hR0 hk; have hB := hB.trans hk; clear hk; clear rc0 rc1 rf0 rf1 rn rl c10 c11 f10 f11 n1 l1; have rc0 := hR.c0; have rc1 := hR.c1; have rf0 := hR.f0; have rf1 := hR.f1; have rn := hR.ne; have rl := hR.lt; have c10 := b1.c0; have c11 := b1.c1; have f10 := b1.f0; have f11 := b1.f1; have n1 := b1.ne; have l1 := b1.lt)
    | (go_at_call_of 83 (Value.int IntKind.u8 49); with_reducible refine Calls.mono (take_is _ C49.out T1.out hR) ?_; rintro e wn ⟨rfl, hR1, hk⟩; have hR0 := hR; have hR := hR1; clear hR1; have b1 := b1.but hR0 hk; have hB := hB.trans hk; clear hk; clear rc0 rc1 rf0 rf1 rn rl c10 c11 f10 f11 n1 l1; have rc0 := hR.c0; have rc1 := hR.c1; have rf0 := hR.f0; have rf1 := hR.f1; have rn := hR.ne; have rl := hR.lt; have c10 := b1.c0; have c11 := b1.c1; have f10 := b1.f0; have f11 := b1.f1; have n1 := b1.ne; have l1 := b1.lt)
    | (go_at_call_of 83 (Value.int IntKind.u8 40); with_reducible refine Calls.mono (take_is _ C40.out T2.out hR) ?_; rintro e wn ⟨rfl, hR1, hk⟩; have hR0 := hR; have hR := hR1; clear hR1; have b1 := b1.but hR0 hk; have hB := hB.trans hk; clear hk; clear rc0 rc1 rf0 rf1 rn rl c10 c11 f10 f11 n1 l1; have rc0 := hR.c0; have rc1 := hR.c1; have rf0 := hR.f0; have rf1 := hR.f1; have rn := hR.ne; have rl := hR.lt; have c10 := b1.c0; have c11 := b1.c1; have f10 := b1.f0; have f11 := b1.f1; have n1 := b1.ne; have l1 := b1.lt)
    | (go_at_call 58; with_reducible refine Calls.mono (I1.out _ hR) ?_; rintro e wn ⟨v, rfl, hv, hR1, hk⟩; obtain ⟨oA, qA, rfl, hoA⟩ := hv.shape'; have HA := Lib.hid hv; clear hv; have hR0 := hR; have hR := hR1; clear hR1; have b1 := b1.but hR0 hk; have hB := hB.trans hk; clear hk; clear rc0 rc1 rf0 rf1 rn rl c10 c11 f10 f11 n1 l1; have rc0 := hR.c0; have rc1 := hR.c1; have rf0 := hR.f0; have rf1 := hR.f1; have rn := hR.ne; have rl := hR.lt; have c10 := b1.c0; have c11 := b1.c1; have f10 := b1.f0; have f11 := b1.f1; have n1 := b1.ne; have l1 := b1.lt))
  have b2 := Bx.new wn oA qA
  have hRD : R ≠ wn.heap.size := by have := hR.lt; omega
  have hDR : wn.heap.size ≠ R := Ne.symm hRD
  have hDB : wn.heap.size ≠ B := by have := b1.lt; omega
  have b1 := b1.alloc (.cells #[.bool oA, .pointer qA] 31)
  have HA := Lib.hid (HA.out.alloc (.cells #[.bool oA, .pointer qA] 31))
  have hB := hB.trans (But.of (bel0 _ (.cells #[.bool oA, .pointer qA] 31)))
  have hR := hR.alloc (.cells #[.bool oA, .pointer qA] 31)
  clear rc0 rc1 rf0 rf1 rn rl c10 c11 f10 f11 n1 l1
  generalize wn.alloc (.cells #[.bool oA, .pointer qA] 31) = wz at *
  obtain ⟨D, eD⟩ : ∃ D, wn.heap.size = D := ⟨_, rfl⟩
  rw [eD] at b2 hRD hDR hDB ⊢
  have rc0 := hR.c0
  have rc1 := hR.c1
  have rf0 := hR.f0
  have rf1 := hR.f1
  have rn := hR.ne
  have rl := hR.lt
  have c10 := b1.c0
  have c11 := b1.c1
  have f10 := b1.f0
  have f11 := b1.f1
  have n1 := b1.ne
  have l1 := b1.lt
  have c20 := b2.c0
  have c21 := b2.c1
  have f20 := b2.f0
  have f21 := b2.f1
  have n2 := b2.ne
  have l2 := b2.lt
  go_upto_region 10 with (go_at_call_of 83 (Value.int IntKind.u8 44); with_reducible refine Calls.mono (take_is _ C44.out TM.out hR) ?_; rintro e wn ⟨rfl, hR1, hk⟩; have hR0 := hR; have hR := hR1; clear hR1; have b1 := b1.but hR0 hk; have b2 := b2.but hR0 hk; have HA := Lib.hid (HA.out.but hR0 hk); have hB := hB.trans hk; clear hk; clear rc0 rc1 rf0 rf1 rn rl c10 c11 f10 f11 n1 l1 c20 c21 f20 f21 n2 l2; have rc0 := hR.c0; have rc1 := hR.c1; have rf0 := hR.f0; have rf1 := hR.f1; have rn := hR.ne; have rl := hR.lt; have c10 := b1.c0; have c11 := b1.c1; have f10 := b1.f0; have f11 := b1.f1; have n1 := b1.ne; have l1 := b1.lt; have c20 := b2.c0; have c21 := b2.c1; have f20 := b2.f0; have f21 := b2.f1; have n2 := b2.ne; have l2 := b2.lt)
  have b1 := b1.but hR (But.set (w := wn) (R := R) (o := 1) (.bool true))
  have b2 := b2.but hR (But.set (w := wn) (R := R) (o := 1) (.bool true))
  have HA := Lib.hid (HA.out.but hR (But.set (w := wn) (R := R) (o := 1) (.bool true)))
  have hB := hB.trans (But.set (w := wn) (R := R) (o := 1) (.bool true))
  have hR := hR.set1 true
  clear rc0 rc1 rf0 rf1 rn rl c10 c11 f10 f11 n1 l1 c20 c21 f20 f21 n2 l2
  generalize wn.setCell ⟨R, 1, none⟩ (.bool true) = wn at *
  have rc0 := hR.c0
  have rc1 := hR.c1
  have rf0 := hR.f0
  have rf1 := hR.f1
  have rn := hR.ne
  have rl := hR.lt
  have c10 := b1.c0
  have c11 := b1.c1
  have f10 := b1.f0
  have f11 := b1.f1
  have n1 := b1.ne
  have l1 := b1.lt
  have c20 := b2.c0
  have c21 := b2.c1
  have f20 := b2.f0
  have f21 := b2.f1
  have n2 := b2.ne
  have l2 := b2.lt
  go_upto_region 11 with (go_at_call 58; with_reducible refine Calls.mono (I2.out _ hR) ?_; rintro e wn ⟨v, rfl, hv, hR1, hk⟩; obtain ⟨oX, qX, rfl, hoX⟩ := hv.shape'; have HX := Lib.hid hv; clear hv; have hR0 := hR; have hR := hR1; clear hR1; have b1 := b1.but hR0 hk; have b2 := b2.but hR0 hk; have HA := Lib.hid (HA.out.but hR0 hk); have hB := hB.trans hk; clear hk; clear rc0 rc1 rf0 rf1 rn rl c10 c11 f10 f11 n1 l1 c20 c21 f20 f21 n2 l2; have rc0 := hR.c0; have rc1 := hR.c1; have rf0 := hR.f0; have rf1 := hR.f1; have rn := hR.ne; have rl := hR.lt; have c10 := b1.c0; have c11 := b1.c1; have f10 := b1.f0; have f11 := b1.f1; have n1 := b1.ne; have l1 := b1.lt; have c20 := b2.c0; have c21 := b2.c1; have f20 := b2.f0; have f21 := b2.f1; have n2 := b2.ne; have l2 := b2.lt)
  have b3 := Bx.new wn oX qX
  have hRE : R ≠ wn.heap.size := by have := hR.lt; omega
  have hER : wn.heap.size ≠ R := Ne.symm hRE
  have hEB : wn.heap.size ≠ B := by have := b1.lt; omega
  have hED : wn.heap.size ≠ D := by have := b2.lt; omega
  have b1 := b1.alloc (.cells #[.bool oX, .pointer qX] 31)
  have b2 := b2.alloc (.cells #[.bool oX, .pointer qX] 31)
  have HA := Lib.hid (HA.out.alloc (.cells #[.bool oX, .pointer qX] 31))
  have HX := Lib.hid (HX.out.alloc (.cells #[.bool oX, .pointer qX] 31))
  have hB := hB.trans (But.of (bel0 _ (.cells #[.bool oX, .pointer qX] 31)))
  have hR := hR.alloc (.cells #[.bool oX, .pointer qX] 31)
  clear rc0 rc1 rf0 rf1 rn rl c10 c11 f10 f11 n1 l1 c20 c21 f20 f21 n2 l2
  generalize wn.alloc (.cells #[.bool oX, .pointer qX] 31) = wz at *
  obtain ⟨E, eE⟩ : ∃ E, wn.heap.size = E := ⟨_, rfl⟩
  rw [eE] at b3 hRE hER hEB hED ⊢
  have rc0 := hR.c0
  have rc1 := hR.c1
  have rf0 := hR.f0
  have rf1 := hR.f1
  have rn := hR.ne
  have rl := hR.lt
  have c10 := b1.c0
  have c11 := b1.c1
  have f10 := b1.f0
  have f11 := b1.f1
  have n1 := b1.ne
  have l1 := b1.lt
  have c20 := b2.c0
  have c21 := b2.c1
  have f20 := b2.f0
  have f21 := b2.f1
  have n2 := b2.ne
  have l2 := b2.lt
  have c30 := b3.c0
  have c31 := b3.c1
  have f30 := b3.f0
  have f31 := b3.f1
  have n3 := b3.ne
  have l3 := b3.lt
  go_upto_region 12 with (fail)
  have b1 := b1.but hR (But.set (w := wz) (R := R) (o := 1) (.bool true))
  have b2 := b2.but hR (But.set (w := wz) (R := R) (o := 1) (.bool true))
  have b3 := b3.but hR (But.set (w := wz) (R := R) (o := 1) (.bool true))
  have HA := Lib.hid (HA.out.but hR (But.set (w := wz) (R := R) (o := 1) (.bool true)))
  have HX := Lib.hid (HX.out.but hR (But.set (w := wz) (R := R) (o := 1) (.bool true)))
  have hB := hB.trans (But.set (w := wz) (R := R) (o := 1) (.bool true))
  have hR := hR.set1 true
  clear rc0 rc1 rf0 rf1 rn rl c10 c11 f10 f11 n1 l1 c20 c21 f20 f21 n2 l2 c30 c31 f30 f31 n3 l3
  generalize wz.setCell ⟨R, 1, none⟩ (.bool true) = wn at *
  have rc0 := hR.c0
  have rc1 := hR.c1
  have rf0 := hR.f0
  have rf1 := hR.f1
  have rn := hR.ne
  have rl := hR.lt
  have c10 := b1.c0
  have c11 := b1.c1
  have f10 := b1.f0
  have f11 := b1.f1
  have n1 := b1.ne
  have l1 := b1.lt
  have c20 := b2.c0
  have c21 := b2.c1
  have f20 := b2.f0
  have f21 := b2.f1
  have n2 := b2.ne
  have l2 := b2.lt
  have c30 := b3.c0
  have c31 := b3.c1
  have f30 := b3.f0
  have f31 := b3.f1
  have n3 := b3.ne
  have l3 := b3.lt
  go_upto_region 13 with (go_at_call 57; with_reducible refine Calls.mono (pair_any _ HA.out HX.out) ?_; rintro e wn ⟨v, rfl, hv, hk⟩; obtain ⟨oI, qI, rfl, hoI⟩ := hv.shape'; have HI := Lib.hid hv; clear hv; have b1 := b1.below hk; have b2 := b2.below hk; have b3 := b3.below hk; have HA := Lib.hid (HA.out.below hk); have HX := Lib.hid (HX.out.below hk); have hB := hB.trans (But.of hk); have hR := hR.below hk; clear hk; clear rc0 rc1 rf0 rf1 rn rl c10 c11 f10 f11 n1 l1 c20 c21 f20 f21 n2 l2 c30 c31 f30 f31 n3 l3; have rc0 := hR.c0; have rc1 := hR.c1; have rf0 := hR.f0; have rf1 := hR.f1; have rn := hR.ne; have rl := hR.lt; have c10 := b1.c0; have c11 := b1.c1; have f10 := b1.f0; have f11 := b1.f1; have n1 := b1.ne; have l1 := b1.lt; have c20 := b2.c0; have c21 := b2.c1; have f20 := b2.f0; have f21 := b2.f1; have n2 := b2.ne; have l2 := b2.lt; have c30 := b3.c0; have c31 := b3.c1; have f30 := b3.f0; have f31 := b3.f1; have n3 := b3.ne; have l3 := b3.lt)
  have b4 := Bx.new wn oI qI
  have hRF : R ≠ wn.heap.size := by have := hR.lt; omega
  have hFR : wn.heap.size ≠ R := Ne.symm hRF
  have hFB : wn.heap.size ≠ B := by have := b1.lt; omega
  have hFD : wn.heap.size ≠ D := by have := b2.lt; omega
  have hFE : wn.heap.size ≠ E := by have := b3.lt; omega
  have b1 := b1.alloc (.cells #[.bool oI, .pointer qI] 31)
  have b2 := b2.alloc (.cells #[.bool oI, .pointer qI] 31)
  have b3 := b3.alloc (.cells #[.bool oI, .pointer qI] 31)
  have HI := Lib.hid (HI.out.alloc (.cells #[.bool oI, .pointer qI] 31))
  have hB := hB.trans (But.of (bel0 _ (.cells #[.bool oI, .pointer qI] 31)))
  have hR := hR.alloc (.cells #[.bool oI, .pointer qI] 31)
  clear rc0 rc1 rf0 rf1 rn rl c10 c11 f10 f11 n1 l1 c20 c21 f20 f21 n2 l2 c30 c31 f30 f31 n3 l3
  generalize wn.alloc (.cells #[.bool oI, .pointer qI] 31) = wz at *
  obtain ⟨F, eF⟩ : ∃ F, wn.heap.size = F := ⟨_, rfl⟩
  rw [eF] at b4 hRF hFR hFB hFD hFE ⊢
  have rc0 := hR.c0
  have rc1 := hR.c1
  have rf0 := hR.f0
  have rf1 := hR.f1
  have rn := hR.ne
  have rl := hR.lt
  have c10 := b1.c0
  have c11 := b1.c1
  have f10 := b1.f0
  have f11 := b1.f1
  have n1 := b1.ne
  have l1 := b1.lt
  have c20 := b2.c0
  have c21 := b2.c1
  have f20 := b2.f0
  have f21 := b2.f1
  have n2 := b2.ne
  have l2 := b2.lt
  have c30 := b3.c0
  have c31 := b3.c1
  have f30 := b3.f0
  have f31 := b3.f1
  have n3 := b3.ne
  have l3 := b3.lt
  have c40 := b4.c0
  have c41 := b4.c1
  have f40 := b4.f0
  have f41 := b4.f1
  have n4 := b4.ne
  have l4 := b4.lt
  go_wp2_with fail
  have e0 := endp (hB.trans (But.set (w := wz) (R := R) (o := 1) (.bool true))) (b1.but hR (But.set (w := wz) (R := R) (o := 1) (.bool true))) (hR.set1 true) (HI.out.but hR (But.set (w := wz) (R := R) (o := 1) (.bool true))) (by omega) oI qI
  exact bodyPost_ret (v := .agg #[.bool oI, .pointer qI]) (by simp [results, go_sem, *]) rfl ⟨_, rfl, e0⟩

set_option maxHeartbeats 1600000 in
theorem rid_p3 (f : Nat) (l : List UInt8) (h0 : (tk 48 l).2 = false) (h1 : (tk 49 l).2 = false) (h2 : (tk 40 l).2 = true) (tA tX : T) (lA lX lM : List UInt8) (hA : rid f (tk 40 l).1 false = (tA, lA, false)) (hX : rid f lM false = (tX, lX, true)) (hm : tk 44 lA = (lM, true)) (i1 : RidOk f (tk 40 l).1 false) (i2 : RidOk f lM false) : RidOk (f + 1) l false := by
  intro R w hR
  have rl0 := hR.lt
  have C48 : Hid (((48 : UInt8).toNat : Int) = 48) := Lib.hid rfl
  have C49 : Hid (((49 : UInt8).toNat : Int) = 49) := Lib.hid rfl
  have C40 : Hid (((40 : UInt8).toNat : Int) = 40) := Lib.hid rfl
  have C44 : Hid (((44 : UInt8).toNat : Int) = 44) := Lib.hid rfl
  have C41 : Hid (((41 : UInt8).toNat : Int) = 41) := Lib.hid rfl
  have HE := Lib.hid (show rid (f + 1) l false = (T.pair tA tX, lX, true) by
    rw [rid, if_neg (by rw [h0]; exact Bool.false_ne_true), if_neg (by rw [h1]; exact Bool.false_ne_true), if_pos h2]
    simp [hA, hX, hm])
  rw [HE.out]
  have T0 := Lib.hid (tk_no h0)
  have T1 := Lib.hid (tk_no h1)
  have T2 := Lib.hid (show tk 40 l = ((tk 40 l).1, true) by rw [← h2])
  have i1 := i1 R
  rw [hA] at i1
  have i2 := i2 R
  rw [hX] at i2
  have I1 := Lib.hid i1
  have I2 := Lib.hid i2
  have TM := Lib.hid hm
  clear h0 h1 h2 i1 i2 hA hX hm
  have b1 := Bx.new w false none
  have hR := hR.alloc (.cells #[.bool false, .pointer none] 31)
  have hB : But R w (w.alloc (.cells #[.bool false, .pointer none] 31)) := But.of (bel0 w _)
  have hBl := rl0
  have rc0 := hR.c0
  have rc1 := hR.c1
  have rf0 := hR.f0
  have rf1 := hR.f1
  have rn := hR.ne
  have rl := hR.lt
  have c10 := b1.c0
  have c11 := b1.c1
  have f10 := b1.f0
  have f11 := b1.f1
  have n1 := b1.ne
  have l1 := b1.lt
  go_enter Try.func58, Try.ntmps58
  go_wp2_with fail
  generalize w.alloc (.cells #[.bool false, .pointer none] 31) = w3 at *
  obtain ⟨B, hBB⟩ : ∃ B, w.heap.size = B := ⟨_, rfl⟩
  rw [hBB] at b1 c10 c11 f10 f11 n1 l1 hBl ⊢
  have hRB : R ≠ B := by omega
  have hBR : B ≠ R := by omega
  go_upto_region 9 with (first
    | (go_at_call_of 83 (Value.int IntKind.u8 48); with_reducible refine Calls.mono (take_is _ C48.out T0.out hR) ?_; rintro e wn ⟨rfl, hR1, hk⟩; have hR0 := hR; have hR := hR1; clear hR1; have b1 := b1.but hR0 hk; have hB := hB.trans hk; clear hk; clear rc0 rc1 rf0 rf1 rn rl c10 c11 f10 f11 n1 l1; have rc0 := hR.c0; have rc1 := hR.c1; have rf0 := hR.f0; have rf1 := hR.f1; have rn := hR.ne; have rl := hR.lt; have c10 := b1.c0; have c11 := b1.c1; have f10 := b1.f0; have f11 := b1.f1; have n1 := b1.ne; have l1 := b1.lt)
    | (go_at_call_of 83 (Value.int IntKind.u8 49); with_reducible refine Calls.mono (take_is _ C49.out T1.out hR) ?_; rintro e wn ⟨rfl, hR1, hk⟩; have hR0 := hR; have hR := hR1; clear hR1; have b1 := b1.but hR0 hk; have hB := hB.trans hk; clear hk; clear rc0 rc1 rf0 rf1 rn rl c10 c11 f10 f11 n1 l1; have rc0 := hR.c0; have rc1 := hR.c1; have rf0 := hR.f0; have rf1 := hR.f1; have rn := hR.ne; have rl := hR.lt; have c10 := b1.c0; have c11 := b1.c1; have f10 := b1.f0; have f11 := b1.f1; have n1 := b1.ne; have l1 := b1.lt)
    | (go_at_call_of 83 (Value.int IntKind.u8 40); with_reducible refine Calls.mono (take_is _ C40.out T2.out hR) ?_; rintro e wn ⟨rfl, hR1, hk⟩; have hR0 := hR; have hR := hR1; clear hR1; have b1 := b1.but hR0 hk; have hB := hB.trans hk; clear hk; clear rc0 rc1 rf0 rf1 rn rl c10 c11 f10 f11 n1 l1; have rc0 := hR.c0; have rc1 := hR.c1; have rf0 := hR.f0; have rf1 := hR.f1; have rn := hR.ne; have rl := hR.lt; have c10 := b1.c0; have c11 := b1.c1; have f10 := b1.f0; have f11 := b1.f1; have n1 := b1.ne; have l1 := b1.lt)
    | (go_at_call 58; with_reducible refine Calls.mono (I1.out _ hR) ?_; rintro e wn ⟨v, rfl, hv, hR1, hk⟩; obtain ⟨oA, qA, rfl, hoA⟩ := hv.shape'; have HA := Lib.hid hv; clear hv; have hR0 := hR; have hR := hR1; clear hR1; have b1 := b1.but hR0 hk; have hB := hB.trans hk; clear hk; clear rc0 rc1 rf0 rf1 rn rl c10 c11 f10 f11 n1 l1; have rc0 := hR.c0; have rc1 := hR.c1; have rf0 := hR.f0; have rf1 := hR.f1; have rn := hR.ne; have rl := hR.lt; have c10 := b1.c0; have c11 := b1.c1; have f10 := b1.f0; have f11 := b1.f1; have n1 := b1.ne; have l1 := b1.lt))
  have b2 := Bx.new wn oA qA
  have hRD : R ≠ wn.heap.size := by have := hR.lt; omega
  have hDR : wn.heap.size ≠ R := Ne.symm hRD
  have hDB : wn.heap.size ≠ B := by have := b1.lt; omega
  have b1 := b1.alloc (.cells #[.bool oA, .pointer qA] 31)
  have HA := Lib.hid (HA.out.alloc (.cells #[.bool oA, .pointer qA] 31))
  have hB := hB.trans (But.of (bel0 _ (.cells #[.bool oA, .pointer qA] 31)))
  have hR := hR.alloc (.cells #[.bool oA, .pointer qA] 31)
  clear rc0 rc1 rf0 rf1 rn rl c10 c11 f10 f11 n1 l1
  generalize wn.alloc (.cells #[.bool oA, .pointer qA] 31) = wz at *
  obtain ⟨D, eD⟩ : ∃ D, wn.heap.size = D := ⟨_, rfl⟩
  rw [eD] at b2 hRD hDR hDB ⊢
  have rc0 := hR.c0
  have rc1 := hR.c1
  have rf0 := hR.f0
  have rf1 := hR.f1
  have rn := hR.ne
  have rl := hR.lt
  have c10 := b1.c0
  have c11 := b1.c1
  have f10 := b1.f0
  have f11 := b1.f1
  have n1 := b1.ne
  have l1 := b1.lt
  have c20 := b2.c0
  have c21 := b2.c1
  have f20 := b2.f0
  have f21 := b2.f1
  have n2 := b2.ne
  have l2 := b2.lt
  go_upto_region 10 with (go_at_call_of 83 (Value.int IntKind.u8 44); with_reducible refine Calls.mono (take_is _ C44.out TM.out hR) ?_; rintro e wn ⟨rfl, hR1, hk⟩; have hR0 := hR; have hR := hR1; clear hR1; have b1 := b1.but hR0 hk; have b2 := b2.but hR0 hk; have HA := Lib.hid (HA.out.but hR0 hk); have hB := hB.trans hk; clear hk; clear rc0 rc1 rf0 rf1 rn rl c10 c11 f10 f11 n1 l1 c20 c21 f20 f21 n2 l2; have rc0 := hR.c0; have rc1 := hR.c1; have rf0 := hR.f0; have rf1 := hR.f1; have rn := hR.ne; have rl := hR.lt; have c10 := b1.c0; have c11 := b1.c1; have f10 := b1.f0; have f11 := b1.f1; have n1 := b1.ne; have l1 := b1.lt; have c20 := b2.c0; have c21 := b2.c1; have f20 := b2.f0; have f21 := b2.f1; have n2 := b2.ne; have l2 := b2.lt)
  have b1 := b1.but hR (But.set (w := wn) (R := R) (o := 1) (.bool false))
  have b2 := b2.but hR (But.set (w := wn) (R := R) (o := 1) (.bool false))
  have HA := Lib.hid (HA.out.but hR (But.set (w := wn) (R := R) (o := 1) (.bool false)))
  have hB := hB.trans (But.set (w := wn) (R := R) (o := 1) (.bool false))
  have hR := hR.set1 false
  clear rc0 rc1 rf0 rf1 rn rl c10 c11 f10 f11 n1 l1 c20 c21 f20 f21 n2 l2
  generalize wn.setCell ⟨R, 1, none⟩ (.bool false) = wn at *
  have rc0 := hR.c0
  have rc1 := hR.c1
  have rf0 := hR.f0
  have rf1 := hR.f1
  have rn := hR.ne
  have rl := hR.lt
  have c10 := b1.c0
  have c11 := b1.c1
  have f10 := b1.f0
  have f11 := b1.f1
  have n1 := b1.ne
  have l1 := b1.lt
  have c20 := b2.c0
  have c21 := b2.c1
  have f20 := b2.f0
  have f21 := b2.f1
  have n2 := b2.ne
  have l2 := b2.lt
  go_upto_region 11 with (go_at_call 58; with_reducible refine Calls.mono (I2.out _ hR) ?_; rintro e wn ⟨v, rfl, hv, hR1, hk⟩; obtain ⟨oX, qX, rfl, hoX⟩ := hv.shape'; have HX := Lib.hid hv; clear hv; have hR0 := hR; have hR := hR1; clear hR1; have b1 := b1.but hR0 hk; have b2 := b2.but hR0 hk; have HA := Lib.hid (HA.out.but hR0 hk); have hB := hB.trans hk; clear hk; clear rc0 rc1 rf0 rf1 rn rl c10 c11 f10 f11 n1 l1 c20 c21 f20 f21 n2 l2; have rc0 := hR.c0; have rc1 := hR.c1; have rf0 := hR.f0; have rf1 := hR.f1; have rn := hR.ne; have rl := hR.lt; have c10 := b1.c0; have c11 := b1.c1; have f10 := b1.f0; have f11 := b1.f1; have n1 := b1.ne; have l1 := b1.lt; have c20 := b2.c0; have c21 := b2.c1; have f20 := b2.f0; have f21 := b2.f1; have n2 := b2.ne; have l2 := b2.lt)
  have b3 := Bx.new wn oX qX
  have hRE : R ≠ wn.heap.size := by have := hR.lt; omega
  have hER : wn.heap.size ≠ R := Ne.symm hRE
  have hEB : wn.heap.size ≠ B := by have := b1.lt; omega
  have hED : wn.heap.size ≠ D := by have := b2.lt; omega
  have b1 := b1.alloc (.cells #[.bool oX, .pointer qX] 31)
  have b2 := b2.alloc (.cells #[.bool oX, .pointer qX] 31)
  have HA := Lib.hid (HA.out.alloc (.cells #[.bool oX, .pointer qX] 31))
  have HX := Lib.hid (HX.out.alloc (.cells #[.bool oX, .pointer qX] 31))
  have hB := hB.trans (But.of (bel0 _ (.cells #[.bool oX, .pointer qX] 31)))
  have hR := hR.alloc (.cells #[.bool oX, .pointer qX] 31)
  clear rc0 rc1 rf0 rf1 rn rl c10 c11 f10 f11 n1 l1 c20 c21 f20 f21 n2 l2
  generalize wn.alloc (.cells #[.bool oX, .pointer qX] 31) = wz at *
  obtain ⟨E, eE⟩ : ∃ E, wn.heap.size = E := ⟨_, rfl⟩
  rw [eE] at b3 hRE hER hEB hED ⊢
  have rc0 := hR.c0
  have rc1 := hR.c1
  have rf0 := hR.f0
  have rf1 := hR.f1
  have rn := hR.ne
  have rl := hR.lt
  have c10 := b1.c0
  have c11 := b1.c1
  have f10 := b1.f0
  have f11 := b1.f1
  have n1 := b1.ne
  have l1 := b1.lt
  have c20 := b2.c0
  have c21 := b2.c1
  have f20 := b2.f0
  have f21 := b2.f1
  have n2 := b2.ne
  have l2 := b2.lt
  have c30 := b3.c0
  have c31 := b3.c1
  have f30 := b3.f0
  have f31 := b3.f1
  have n3 := b3.ne
  have l3 := b3.lt
  go_upto_region 12 with (fail)
  have b1 := b1.but hR (But.set (w := wz) (R := R) (o := 1) (.bool true))
  have b2 := b2.but hR (But.set (w := wz) (R := R) (o := 1) (.bool true))
  have b3 := b3.but hR (But.set (w := wz) (R := R) (o := 1) (.bool true))
  have HA := Lib.hid (HA.out.but hR (But.set (w := wz) (R := R) (o := 1) (.bool true)))
  have HX := Lib.hid (HX.out.but hR (But.set (w := wz) (R := R) (o := 1) (.bool true)))
  have hB := hB.trans (But.set (w := wz) (R := R) (o := 1) (.bool true))
  have hR := hR.set1 true
  clear rc0 rc1 rf0 rf1 rn rl c10 c11 f10 f11 n1 l1 c20 c21 f20 f21 n2 l2 c30 c31 f30 f31 n3 l3
  generalize wz.setCell ⟨R, 1, none⟩ (.bool true) = wn at *
  have rc0 := hR.c0
  have rc1 := hR.c1
  have rf0 := hR.f0
  have rf1 := hR.f1
  have rn := hR.ne
  have rl := hR.lt
  have c10 := b1.c0
  have c11 := b1.c1
  have f10 := b1.f0
  have f11 := b1.f1
  have n1 := b1.ne
  have l1 := b1.lt
  have c20 := b2.c0
  have c21 := b2.c1
  have f20 := b2.f0
  have f21 := b2.f1
  have n2 := b2.ne
  have l2 := b2.lt
  have c30 := b3.c0
  have c31 := b3.c1
  have f30 := b3.f0
  have f31 := b3.f1
  have n3 := b3.ne
  have l3 := b3.lt
  go_upto_region 13 with (go_at_call 57; with_reducible refine Calls.mono (pair_any _ HA.out HX.out) ?_; rintro e wn ⟨v, rfl, hv, hk⟩; obtain ⟨oI, qI, rfl, hoI⟩ := hv.shape'; have HI := Lib.hid hv; clear hv; have b1 := b1.below hk; have b2 := b2.below hk; have b3 := b3.below hk; have HA := Lib.hid (HA.out.below hk); have HX := Lib.hid (HX.out.below hk); have hB := hB.trans (But.of hk); have hR := hR.below hk; clear hk; clear rc0 rc1 rf0 rf1 rn rl c10 c11 f10 f11 n1 l1 c20 c21 f20 f21 n2 l2 c30 c31 f30 f31 n3 l3; have rc0 := hR.c0; have rc1 := hR.c1; have rf0 := hR.f0; have rf1 := hR.f1; have rn := hR.ne; have rl := hR.lt; have c10 := b1.c0; have c11 := b1.c1; have f10 := b1.f0; have f11 := b1.f1; have n1 := b1.ne; have l1 := b1.lt; have c20 := b2.c0; have c21 := b2.c1; have f20 := b2.f0; have f21 := b2.f1; have n2 := b2.ne; have l2 := b2.lt; have c30 := b3.c0; have c31 := b3.c1; have f30 := b3.f0; have f31 := b3.f1; have n3 := b3.ne; have l3 := b3.lt)
  have b4 := Bx.new wn oI qI
  have hRF : R ≠ wn.heap.size := by have := hR.lt; omega
  have hFR : wn.heap.size ≠ R := Ne.symm hRF
  have hFB : wn.heap.size ≠ B := by have := b1.lt; omega
  have hFD : wn.heap.size ≠ D := by have := b2.lt; omega
  have hFE : wn.heap.size ≠ E := by have := b3.lt; omega
  have b1 := b1.alloc (.cells #[.bool oI, .pointer qI] 31)
  have b2 := b2.alloc (.cells #[.bool oI, .pointer qI] 31)
  have b3 := b3.alloc (.cells #[.bool oI, .pointer qI] 31)
  have HI := Lib.hid (HI.out.alloc (.cells #[.bool oI, .pointer qI] 31))
  have hB := hB.trans (But.of (bel0 _ (.cells #[.bool oI, .pointer qI] 31)))
  have hR := hR.alloc (.cells #[.bool oI, .pointer qI] 31)
  clear rc0 rc1 rf0 rf1 rn rl c10 c11 f10 f11 n1 l1 c20 c21 f20 f21 n2 l2 c30 c31 f30 f31 n3 l3
  generalize wn.alloc (.cells #[.bool oI, .pointer qI] 31) = wz at *
  obtain ⟨F, eF⟩ : ∃ F, wn.heap.size = F := ⟨_, rfl⟩
  rw [eF] at b4 hRF hFR hFB hFD hFE ⊢
  have rc0 := hR.c0
  have rc1 := hR.c1
  have rf0 := hR.f0
  have rf1 := hR.f1
  have rn := hR.ne
  have rl := hR.lt
  have c10 := b1.c0
  have c11 := b1.c1
  have f10 := b1.f0
  have f11 := b1.f1
  have n1 := b1.ne
  have l1 := b1.lt
  have c20 := b2.c0
  have c21 := b2.c1
  have f20 := b2.f0
  have f21 := b2.f1
  have n2 := b2.ne
  have l2 := b2.lt
  have c30 := b3.c0
  have c31 := b3.c1
  have f30 := b3.f0
  have f31 := b3.f1
  have n3 := b3.ne
  have l3 := b3.lt
  have c40 := b4.c0
  have c41 := b4.c1
  have f40 := b4.f0
  have f41 := b4.f1
  have n4 := b4.ne
  have l4 := b4.lt
  go_wp2_with fail
  have e0 := endp (hB.trans (But.set (w := wz) (R := R) (o := 1) (.bool true))) (b1.but hR (But.set (w := wz) (R := R) (o := 1) (.bool true))) (hR.set1 true) (HI.out.but hR (But.set (w := wz) (R := R) (o := 1) (.bool true))) (by omega) oI qI
  exact bodyPost_ret (v := .agg #[.bool oI, .pointer qI]) (by simp [results, go_sem, *]) rfl ⟨_, rfl, e0⟩

set_option maxHeartbeats 1600000 in
theorem rid_p4 (f : Nat) (l : List UInt8) (h0 : (tk 48 l).2 = false) (h1 : (tk 49 l).2 = false) (h2 : (tk 40 l).2 = true) (tA tX : T) (lA lX lM : List UInt8) (hA : rid f (tk 40 l).1 false = (tA, lA, false)) (hX : rid f lM false = (tX, lX, false)) (hm : tk 44 lA = (lM, true)) (hk : tk 41 lX = (lX, false)) (i1 : RidOk f (tk 40 l).1 false) (i2 : RidOk f lM false) : RidOk (f + 1) l false := by
  intro R w hR
  have rl0 := hR.lt
  have C48 : Hid (((48 : UInt8).toNat : Int) = 48) := Lib.hid rfl
  have C49 : Hid (((49 : UInt8).toNat : Int) = 49) := Lib.hid rfl
  have C40 : Hid (((40 : UInt8).toNat : Int) = 40) := Lib.hid rfl
  have C44 : Hid (((44 : UInt8).toNat : Int) = 44) := Lib.hid rfl
  have C41 : Hid (((41 : UInt8).toNat : Int) = 41) := Lib.hid rfl
  have HE := Lib.hid (show rid (f + 1) l false = (T.pair tA tX, lX, true) by
    rw [rid, if_neg (by rw [h0]; exact Bool.false_ne_true), if_neg (by rw [h1]; exact Bool.false_ne_true), if_pos h2]
    simp [hA, hX, hm, hk])
  rw [HE.out]
  have T0 := Lib.hid (tk_no h0)
  have T1 := Lib.hid (tk_no h1)
  have T2 := Lib.hid (show tk 40 l = ((tk 40 l).1, true) by rw [← h2])
  have i1 := i1 R
  rw [hA] at i1
  have i2 := i2 R
  rw [hX] at i2
  have I1 := Lib.hid i1
  have I2 := Lib.hid i2
  have TM := Lib.hid hm
  have TK := Lib.hid hk
  clear h0 h1 h2 i1 i2 hA hX hm hk
  have b1 := Bx.new w false none
  have hR := hR.alloc (.cells #[.bool false, .pointer none] 31)
  have hB : But R w (w.alloc (.cells #[.bool false, .pointer none] 31)) := But.of (bel0 w _)
  have hBl := rl0
  have rc0 := hR.c0
  have rc1 := hR.c1
  have rf0 := hR.f0
  have rf1 := hR.f1
  have rn := hR.ne
  have rl := hR.lt
  have c10 := b1.c0
  have c11 := b1.c1
  have f10 := b1.f0
  have f11 := b1.f1
  have n1 := b1.ne
  have l1 := b1.lt
  go_enter Try.func58, Try.ntmps58
  go_wp2_with fail
  generalize w.alloc (.cells #[.bool false, .pointer none] 31) = w3 at *
  obtain ⟨B, hBB⟩ : ∃ B, w.heap.size = B := ⟨_, rfl⟩
  rw [hBB] at b1 c10 c11 f10 f11 n1 l1 hBl ⊢
  have hRB : R ≠ B := by omega
  have hBR : B ≠ R := by omega
  go_upto_region 9 with (first
    | (go_at_call_of 83 (Value.int IntKind.u8 48); with_reducible refine Calls.mono (take_is _ C48.out T0.out hR) ?_; rintro e wn ⟨rfl, hR1, hk⟩; have hR0 := hR; have hR := hR1; clear hR1; have b1 := b1.but hR0 hk; have hB := hB.trans hk; clear hk; clear rc0 rc1 rf0 rf1 rn rl c10 c11 f10 f11 n1 l1; have rc0 := hR.c0; have rc1 := hR.c1; have rf0 := hR.f0; have rf1 := hR.f1; have rn := hR.ne; have rl := hR.lt; have c10 := b1.c0; have c11 := b1.c1; have f10 := b1.f0; have f11 := b1.f1; have n1 := b1.ne; have l1 := b1.lt)
    | (go_at_call_of 83 (Value.int IntKind.u8 49); with_reducible refine Calls.mono (take_is _ C49.out T1.out hR) ?_; rintro e wn ⟨rfl, hR1, hk⟩; have hR0 := hR; have hR := hR1; clear hR1; have b1 := b1.but hR0 hk; have hB := hB.trans hk; clear hk; clear rc0 rc1 rf0 rf1 rn rl c10 c11 f10 f11 n1 l1; have rc0 := hR.c0; have rc1 := hR.c1; have rf0 := hR.f0; have rf1 := hR.f1; have rn := hR.ne; have rl := hR.lt; have c10 := b1.c0; have c11 := b1.c1; have f10 := b1.f0; have f11 := b1.f1; have n1 := b1.ne; have l1 := b1.lt)
    | (go_at_call_of 83 (Value.int IntKind.u8 40); with_reducible refine Calls.mono (take_is _ C40.out T2.out hR) ?_; rintro e wn ⟨rfl, hR1, hk⟩; have hR0 := hR; have hR := hR1; clear hR1; have b1 := b1.but hR0 hk; have hB := hB.trans hk; clear hk; clear rc0 rc1 rf0 rf1 rn rl c10 c11 f10 f11 n1 l1; have rc0 := hR.c0; have rc1 := hR.c1; have rf0 := hR.f0; have rf1 := hR.f1; have rn := hR.ne; have rl := hR.lt; have c10 := b1.c0; have c11 := b1.c1; have f10 := b1.f0; have f11 := b1.f1; have n1 := b1.ne; have l1 := b1.lt)
    | (go_at_call 58; with_reducible refine Calls.mono (I1.out _ hR) ?_; rintro e wn ⟨v, rfl, hv, hR1, hk⟩; obtain ⟨oA, qA, rfl, hoA⟩ := hv.shape'; have HA := Lib.hid hv; clear hv; have hR0 := hR; have hR := hR1; clear hR1; have b1 := b1.but hR0 hk; have hB := hB.trans hk; clear hk; clear rc0 rc1 rf0 rf1 rn rl c10 c11 f10 f11 n1 l1; have rc0 := hR.c0; have rc1 := hR.c1; have rf0 := hR.f0; have rf1 := hR.f1; have rn := hR.ne; have rl := hR.lt; have c10 := b1.c0; have c11 := b1.c1; have f10 := b1.f0; have f11 := b1.f1; have n1 := b1.ne; have l1 := b1.lt))
  have b2 := Bx.new wn oA qA
  have hRD : R ≠ wn.heap.size := by have := hR.lt; omega
  have hDR : wn.heap.size ≠ R := Ne.symm hRD
  have hDB : wn.heap.size ≠ B := by have := b1.lt; omega
  have b1 := b1.alloc (.cells #[.bool oA, .pointer qA] 31)
  have HA := Lib.hid (HA.out.alloc (.cells #[.bool oA, .pointer qA] 31))
  have hB := hB.trans (But.of (bel0 _ (.cells #[.bool oA, .pointer qA] 31)))
  have hR := hR.alloc (.cells #[.bool oA, .pointer qA] 31)
  clear rc0 rc1 rf0 rf1 rn rl c10 c11 f10 f11 n1 l1
  generalize wn.alloc (.cells #[.bool oA, .pointer qA] 31) = wz at *
  obtain ⟨D, eD⟩ : ∃ D, wn.heap.size = D := ⟨_, rfl⟩
  rw [eD] at b2 hRD hDR hDB ⊢
  have rc0 := hR.c0
  have rc1 := hR.c1
  have rf0 := hR.f0
  have rf1 := hR.f1
  have rn := hR.ne
  have rl := hR.lt
  have c10 := b1.c0
  have c11 := b1.c1
  have f10 := b1.f0
  have f11 := b1.f1
  have n1 := b1.ne
  have l1 := b1.lt
  have c20 := b2.c0
  have c21 := b2.c1
  have f20 := b2.f0
  have f21 := b2.f1
  have n2 := b2.ne
  have l2 := b2.lt
  go_upto_region 10 with (go_at_call_of 83 (Value.int IntKind.u8 44); with_reducible refine Calls.mono (take_is _ C44.out TM.out hR) ?_; rintro e wn ⟨rfl, hR1, hk⟩; have hR0 := hR; have hR := hR1; clear hR1; have b1 := b1.but hR0 hk; have b2 := b2.but hR0 hk; have HA := Lib.hid (HA.out.but hR0 hk); have hB := hB.trans hk; clear hk; clear rc0 rc1 rf0 rf1 rn rl c10 c11 f10 f11 n1 l1 c20 c21 f20 f21 n2 l2; have rc0 := hR.c0; have rc1 := hR.c1; have rf0 := hR.f0; have rf1 := hR.f1; have rn := hR.ne; have rl := hR.lt; have c10 := b1.c0; have c11 := b1.c1; have f10 := b1.f0; have f11 := b1.f1; have n1 := b1.ne; have l1 := b1.lt; have c20 := b2.c0; have c21 := b2.c1; have f20 := b2.f0; have f21 := b2.f1; have n2 := b2.ne; have l2 := b2.lt)
  have b1 := b1.but hR (But.set (w := wn) (R := R) (o := 1) (.bool false))
  have b2 := b2.but hR (But.set (w := wn) (R := R) (o := 1) (.bool false))
  have HA := Lib.hid (HA.out.but hR (But.set (w := wn) (R := R) (o := 1) (.bool false)))
  have hB := hB.trans (But.set (w := wn) (R := R) (o := 1) (.bool false))
  have hR := hR.set1 false
  clear rc0 rc1 rf0 rf1 rn rl c10 c11 f10 f11 n1 l1 c20 c21 f20 f21 n2 l2
  generalize wn.setCell ⟨R, 1, none⟩ (.bool false) = wn at *
  have rc0 := hR.c0
  have rc1 := hR.c1
  have rf0 := hR.f0
  have rf1 := hR.f1
  have rn := hR.ne
  have rl := hR.lt
  have c10 := b1.c0
  have c11 := b1.c1
  have f10 := b1.f0
  have f11 := b1.f1
  have n1 := b1.ne
  have l1 := b1.lt
  have c20 := b2.c0
  have c21 := b2.c1
  have f20 := b2.f0
  have f21 := b2.f1
  have n2 := b2.ne
  have l2 := b2.lt
  go_upto_region 11 with (go_at_call 58; with_reducible refine Calls.mono (I2.out _ hR) ?_; rintro e wn ⟨v, rfl, hv, hR1, hk⟩; obtain ⟨oX, qX, rfl, hoX⟩ := hv.shape'; have HX := Lib.hid hv; clear hv; have hR0 := hR; have hR := hR1; clear hR1; have b1 := b1.but hR0 hk; have b2 := b2.but hR0 hk; have HA := Lib.hid (HA.out.but hR0 hk); have hB := hB.trans hk; clear hk; clear rc0 rc1 rf0 rf1 rn rl c10 c11 f10 f11 n1 l1 c20 c21 f20 f21 n2 l2; have rc0 := hR.c0; have rc1 := hR.c1; have rf0 := hR.f0; have rf1 := hR.f1; have rn := hR.ne; have rl := hR.lt; have c10 := b1.c0; have c11 := b1.c1; have f10 := b1.f0; have f11 := b1.f1; have n1 := b1.ne; have l1 := b1.lt; have c20 := b2.c0; have c21 := b2.c1; have f20 := b2.f0; have f21 := b2.f1; have n2 := b2.ne; have l2 := b2.lt)
  have b3 := Bx.new wn oX qX
  have hRE : R ≠ wn.heap.size := by have := hR.lt; omega
  have hER : wn.heap.size ≠ R := Ne.symm hRE
  have hEB : wn.heap.size ≠ B := by have := b1.lt; omega
  have hED : wn.heap.size ≠ D := by have := b2.lt; omega
  have b1 := b1.alloc (.cells #[.bool oX, .pointer qX] 31)
  have b2 := b2.alloc (.cells #[.bool oX, .pointer qX] 31)
  have HA := Lib.hid (HA.out.alloc (.cells #[.bool oX, .pointer qX] 31))
  have HX := Lib.hid (HX.out.alloc (.cells #[.bool oX, .pointer qX] 31))
  have hB := hB.trans (But.of (bel0 _ (.cells #[.bool oX, .pointer qX] 31)))
  have hR := hR.alloc (.cells #[.bool oX, .pointer qX] 31)
  clear rc0 rc1 rf0 rf1 rn rl c10 c11 f10 f11 n1 l1 c20 c21 f20 f21 n2 l2
  generalize wn.alloc (.cells #[.bool oX, .pointer qX] 31) = wz at *
  obtain ⟨E, eE⟩ : ∃ E, wn.heap.size = E := ⟨_, rfl⟩
  rw [eE] at b3 hRE hER hEB hED ⊢
  have rc0 := hR.c0
  have rc1 := hR.c1
  have rf0 := hR.f0
  have rf1 := hR.f1
  have rn := hR.ne
  have rl := hR.lt
  have c10 := b1.c0
  have c11 := b1.c1
  have f10 := b1.f0
  have f11 := b1.f1
  have n1 := b1.ne
  have l1 := b1.lt
  have c20 := b2.c0
  have c21 := b2.c1
  have f20 := b2.f0
  have f21 := b2.f1
  have n2 := b2.ne
  have l2 := b2.lt
  have c30 := b3.c0
  have c31 := b3.c1
  have f30 := b3.f0
  have f31 := b3.f1
  have n3 := b3.ne
  have l3 := b3.lt
  go_upto_region 12 with (go_at_call_of 83 (Value.int IntKind.u8 41); with_reducible refine Calls.mono (take_is _ C41.out TK.out hR) ?_; rintro e wn ⟨rfl, hR1, hk⟩; have hR0 := hR; have hR := hR1; clear hR1; have b1 := b1.but hR0 hk; have b2 := b2.but hR0 hk; have b3 := b3.but hR0 hk; have HA := Lib.hid (HA.out.but hR0 hk); have HX := Lib.hid (HX.out.but hR0 hk); have hB := hB.trans hk; clear hk; clear rc0 rc1 rf0 rf1 rn rl c10 c11 f10 f11 n1 l1 c20 c21 f20 f21 n2 l2 c30 c31 f30 f31 n3 l3; have rc0 := hR.c0; have rc1 := hR.c1; have rf0 := hR.f0; have rf1 := hR.f1; have rn := hR.ne; have rl := hR.lt; have c10 := b1.c0; have c11 := b1.c1; have f10 := b1.f0; have f11 := b1.f1; have n1 := b1.ne; have l1 := b1.lt; have c20 := b2.c0; have c21 := b2.c1; have f20 := b2.f0; have f21 := b2.f1; have n2 := b2.ne; have l2 := b2.lt; have c30 := b3.c0; have c31 := b3.c1; have f30 := b3.f0; have f31 := b3.f1; have n3 := b3.ne; have l3 := b3.lt)
  have b1 := b1.but hR (But.set (w := wn) (R := R) (o := 1) (.bool true))
  have b2 := b2.but hR (But.set (w := wn) (R := R) (o := 1) (.bool true))
  have b3 := b3.but hR (But.set (w := wn) (R := R) (o := 1) (.bool true))
  have HA := Lib.hid (HA.out.but hR (But.set (w := wn) (R := R) (o := 1) (.bool true)))
  have HX := Lib.hid (HX.out.but hR (But.set (w := wn) (R := R) (o := 1) (.bool true)))
  have hB := hB.trans (But.set (w := wn) (R := R) (o := 1) (.bool true))
  have hR := hR.set1 true
  clear rc0 rc1 rf0 rf1 rn rl c10 c11 f10 f11 n1 l1 c20 c21 f20 f21 n2 l2 c30 c31 f30 f31 n3 l3
  generalize wn.setCell ⟨R, 1, none⟩ (.bool true) = wn at *
  have rc0 := hR.c0
  have rc1 := hR.c1
  have rf0 := hR.f0
  have rf1 := hR.f1
  have rn := hR.ne
  have rl := hR.lt
  have c10 := b1.c0
  have c11 := b1.c1
  have f10 := b1.f0
  have f11 := b1.f1
  have n1 := b1.ne
  have l1 := b1.lt
  have c20 := b2.c0
  have c21 := b2.c1
  have f20 := b2.f0
  have f21 := b2.f1
  have n2 := b2.ne
  have l2 := b2.lt
  have c30 := b3.c0
  have c31 := b3.c1
  have f30 := b3.f0
  have f31 := b3.f1
  have n3 := b3.ne
  have l3 := b3.lt
  go_upto_region 13 with (go_at_call 57; with_reducible refine Calls.mono (pair_any _ HA.out HX.out) ?_; rintro e wn ⟨v, rfl, hv, hk⟩; obtain ⟨oI, qI, rfl, hoI⟩ := hv.shape'; have HI := Lib.hid hv; clear hv; have b1 := b1.below hk; have b2 := b2.below hk; have b3 := b3.below hk; have HA := Lib.hid (HA.out.below hk); have HX := Lib.hid (HX.out.below hk); have hB := hB.trans (But.of hk); have hR := hR.below hk; clear hk; clear rc0 rc1 rf0 rf1 rn rl c10 c11 f10 f11 n1 l1 c20 c21 f20 f21 n2 l2 c30 c31 f30 f31 n3 l3; have rc0 := hR.c0; have rc1 := hR.c1; have rf0 := hR.f0; have rf1 := hR.f1; have rn := hR.ne; have rl := hR.lt; have c10 := b1.c0; have c11 := b1.c1; have f10 := b1.f0; have f11 := b1.f1; have n1 := b1.ne; have l1 := b1.lt; have c20 := b2.c0; have c21 := b2.c1; have f20 := b2.f0; have f21 := b2.f1; have n2 := b2.ne; have l2 := b2.lt; have c30 := b3.c0; have c31 := b3.c1; have f30 := b3.f0; have f31 := b3.f1; have n3 := b3.ne; have l3 := b3.lt)
  have b4 := Bx.new wn oI qI
  have hRF : R ≠ wn.heap.size := by have := hR.lt; omega
  have hFR : wn.heap.size ≠ R := Ne.symm hRF
  have hFB : wn.heap.size ≠ B := by have := b1.lt; omega
  have hFD : wn.heap.size ≠ D := by have := b2.lt; omega
  have hFE : wn.heap.size ≠ E := by have := b3.lt; omega
  have b1 := b1.alloc (.cells #[.bool oI, .pointer qI] 31)
  have b2 := b2.alloc (.cells #[.bool oI, .pointer qI] 31)
  have b3 := b3.alloc (.cells #[.bool oI, .pointer qI] 31)
  have HI := Lib.hid (HI.out.alloc (.cells #[.bool oI, .pointer qI] 31))
  have hB := hB.trans (But.of (bel0 _ (.cells #[.bool oI, .pointer qI] 31)))
  have hR := hR.alloc (.cells #[.bool oI, .pointer qI] 31)
  clear rc0 rc1 rf0 rf1 rn rl c10 c11 f10 f11 n1 l1 c20 c21 f20 f21 n2 l2 c30 c31 f30 f31 n3 l3
  generalize wn.alloc (.cells #[.bool oI, .pointer qI] 31) = wz at *
  obtain ⟨F, eF⟩ : ∃ F, wn.heap.size = F := ⟨_, rfl⟩
  rw [eF] at b4 hRF hFR hFB hFD hFE ⊢
  have rc0 := hR.c0
  have rc1 := hR.c1
  have rf0 := hR.f0
  have rf1 := hR.f1
  have rn := hR.ne
  have rl := hR.lt
  have c10 := b1.c0
  have c11 := b1.c1
  have f10 := b1.f0
  have f11 := b1.f1
  have n1 := b1.ne
  have l1 := b1.lt
  have c20 := b2.c0
  have c21 := b2.c1
  have f20 := b2.f0
  have f21 := b2.f1
  have n2 := b2.ne
  have l2 := b2.lt
  have c30 := b3.c0
  have c31 := b3.c1
  have f30 := b3.f0
  have f31 := b3.f1
  have n3 := b3.ne
  have l3 := b3.lt
  have c40 := b4.c0
  have c41 := b4.c1
  have f40 := b4.f0
  have f41 := b4.f1
  have n4 := b4.ne
  have l4 := b4.lt
  go_wp2_with fail
  have e0 := endp (hB.trans (But.set (w := wz) (R := R) (o := 1) (.bool true))) (b1.but hR (But.set (w := wz) (R := R) (o := 1) (.bool true))) (hR.set1 true) (HI.out.but hR (But.set (w := wz) (R := R) (o := 1) (.bool true))) (by omega) oI qI
  exact bodyPost_ret (v := .agg #[.bool oI, .pointer qI]) (by simp [results, go_sem, *]) rfl ⟨_, rfl, e0⟩

set_option maxHeartbeats 1600000 in
theorem rid_p5 (f : Nat) (l : List UInt8) (h0 : (tk 48 l).2 = false) (h1 : (tk 49 l).2 = false) (h2 : (tk 40 l).2 = true) (tA tX : T) (lA lX lM lK : List UInt8) (hA : rid f (tk 40 l).1 false = (tA, lA, false)) (hX : rid f lM false = (tX, lX, false)) (hm : tk 44 lA = (lM, true)) (hk : tk 41 lX = (lK, true)) (hN : (T.pair tA tX).isN = true) (i1 : RidOk f (tk 40 l).1 false) (i2 : RidOk f lM false) : RidOk (f + 1) l false := by
  intro R w hR
  have rl0 := hR.lt
  have C48 : Hid (((48 : UInt8).toNat : Int) = 48) := Lib.hid rfl
  have C49 : Hid (((49 : UInt8).toNat : Int) = 49) := Lib.hid rfl
  have C40 : Hid (((40 : UInt8).toNat : Int) = 40) := Lib.hid rfl
  have C44 : Hid (((44 : UInt8).toNat : Int) = 44) := Lib.hid rfl
  have C41 : Hid (((41 : UInt8).toNat : Int) = 41) := Lib.hid rfl
  have HE := Lib.hid (show rid (f + 1) l false = (T.pair tA tX, lK, false) by
    rw [rid, if_neg (by rw [h0]; exact Bool.false_ne_true), if_neg (by rw [h1]; exact Bool.false_ne_true), if_pos h2]
    simp [hA, hX, hm, hk, hN])
  rw [HE.out]
  have T0 := Lib.hid (tk_no h0)
  have T1 := Lib.hid (tk_no h1)
  have T2 := Lib.hid (show tk 40 l = ((tk 40 l).1, true) by rw [← h2])
  have i1 := i1 R
  rw [hA] at i1
  have i2 := i2 R
  rw [hX] at i2
  have I1 := Lib.hid i1
  have I2 := Lib.hid i2
  have TM := Lib.hid hm
  have TK := Lib.hid hk
  have HN := Lib.hid hN
  clear h0 h1 h2 i1 i2 hA hX hm hk hN
  have b1 := Bx.new w false none
  have hR := hR.alloc (.cells #[.bool false, .pointer none] 31)
  have hB : But R w (w.alloc (.cells #[.bool false, .pointer none] 31)) := But.of (bel0 w _)
  have hBl := rl0
  have rc0 := hR.c0
  have rc1 := hR.c1
  have rf0 := hR.f0
  have rf1 := hR.f1
  have rn := hR.ne
  have rl := hR.lt
  have c10 := b1.c0
  have c11 := b1.c1
  have f10 := b1.f0
  have f11 := b1.f1
  have n1 := b1.ne
  have l1 := b1.lt
  go_enter Try.func58, Try.ntmps58
  go_wp2_with fail
  generalize w.alloc (.cells #[.bool false, .pointer none] 31) = w3 at *
  obtain ⟨B, hBB⟩ : ∃ B, w.heap.size = B := ⟨_, rfl⟩
  rw [hBB] at b1 c10 c11 f10 f11 n1 l1 hBl ⊢
  have hRB : R ≠ B := by omega
  have hBR : B ≠ R := by omega
  go_upto_region 9 with (first
    | (go_at_call_of 83 (Value.int IntKind.u8 48); with_reducible refine Calls.mono (take_is _ C48.out T0.out hR) ?_; rintro e wn ⟨rfl, hR1, hk⟩; have hR0 := hR; have hR := hR1; clear hR1; have b1 := b1.but hR0 hk; have hB := hB.trans hk; clear hk; clear rc0 rc1 rf0 rf1 rn rl c10 c11 f10 f11 n1 l1; have rc0 := hR.c0; have rc1 := hR.c1; have rf0 := hR.f0; have rf1 := hR.f1; have rn := hR.ne; have rl := hR.lt; have c10 := b1.c0; have c11 := b1.c1; have f10 := b1.f0; have f11 := b1.f1; have n1 := b1.ne; have l1 := b1.lt)
    | (go_at_call_of 83 (Value.int IntKind.u8 49); with_reducible refine Calls.mono (take_is _ C49.out T1.out hR) ?_; rintro e wn ⟨rfl, hR1, hk⟩; have hR0 := hR; have hR := hR1; clear hR1; have b1 := b1.but hR0 hk; have hB := hB.trans hk; clear hk; clear rc0 rc1 rf0 rf1 rn rl c10 c11 f10 f11 n1 l1; have rc0 := hR.c0; have rc1 := hR.c1; have rf0 := hR.f0; have rf1 := hR.f1; have rn := hR.ne; have rl := hR.lt; have c10 := b1.c0; have c11 := b1.c1; have f10 := b1.f0; have f11 := b1.f1; have n1 := b1.ne; have l1 := b1.lt)
    | (go_at_call_of 83 (Value.int IntKind.u8 40); with_reducible refine Calls.mono (take_is _ C40.out T2.out hR) ?_; rintro e wn ⟨rfl, hR1, hk⟩; have hR0 := hR; have hR := hR1; clear hR1; have b1 := b1.but hR0 hk; have hB := hB.trans hk; clear hk; clear rc0 rc1 rf0 rf1 rn rl c10 c11 f10 f11 n1 l1; have rc0 := hR.c0; have rc1 := hR.c1; have rf0 := hR.f0; have rf1 := hR.f1; have rn := hR.ne; have rl := hR.lt; have c10 := b1.c0; have c11 := b1.c1; have f10 := b1.f0; have f11 := b1.f1; have n1 := b1.ne; have l1 := b1.lt)
    | (go_at_call 58; with_reducible refine Calls.mono (I1.out _ hR) ?_; rintro e wn ⟨v, rfl, hv, hR1, hk⟩; obtain ⟨oA, qA, rfl, hoA⟩ := hv.shape'; have HA := Lib.hid hv; clear hv; have hR0 := hR; have hR := hR1; clear hR1; have b1 := b1.but hR0 hk; have hB := hB.trans hk; clear hk; clear rc0 rc1 rf0 rf1 rn rl c10 c11 f10 f11 n1 l1; have rc0 := hR.c0; have rc1 := hR.c1; have rf0 := hR.f0; have rf1 := hR.f1; have rn := hR.ne; have rl := hR.lt; have c10 := b1.c0; have c11 := b1.c1; have f10 := b1.f0; have f11 := b1.f1; have n1 := b1.ne; have l1 := b1.lt))
  have b2 := Bx.new wn oA qA
  have hRD : R ≠ wn.heap.size := by have := hR.lt; omega
  have hDR : wn.heap.size ≠ R := Ne.symm hRD
  have hDB : wn.heap.size ≠ B := by have := b1.lt; omega
  have b1 := b1.alloc (.cells #[.bool oA, .pointer qA] 31)
  have HA := Lib.hid (HA.out.alloc (.cells #[.bool oA, .pointer qA] 31))
  have hB := hB.trans (But.of (bel0 _ (.cells #[.bool oA, .pointer qA] 31)))
  have hR := hR.alloc (.cells #[.bool oA, .pointer qA] 31)
  clear rc0 rc1 rf0 rf1 rn rl c10 c11 f10 f11 n1 l1
  generalize wn.alloc (.cells #[.bool oA, .pointer qA] 31) = wz at *
  obtain ⟨D, eD⟩ : ∃ D, wn.heap.size = D := ⟨_, rfl⟩
  rw [eD] at b2 hRD hDR hDB ⊢
  have rc0 := hR.c0
  have rc1 := hR.c1
  have rf0 := hR.f0
  have rf1 := hR.f1
  have rn := hR.ne
  have rl := hR.lt
  have c10 := b1.c0
  have c11 := b1.c1
  have f10 := b1.f0
  have f11 := b1.f1
  have n1 := b1.ne
  have l1 := b1.lt
  have c20 := b2.c0
  have c21 := b2.c1
  have f20 := b2.f0
  have f21 := b2.f1
  have n2 := b2.ne
  have l2 := b2.lt
  go_upto_region 10 with (go_at_call_of 83 (Value.int IntKind.u8 44); with_reducible refine Calls.mono (take_is _ C44.out TM.out hR) ?_; rintro e wn ⟨rfl, hR1, hk⟩; have hR0 := hR; have hR := hR1; clear hR1; have b1 := b1.but hR0 hk; have b2 := b2.but hR0 hk; have HA := Lib.hid (HA.out.but hR0 hk); have hB := hB.trans hk; clear hk; clear rc0 rc1 rf0 rf1 rn rl c10 c11 f10 f11 n1 l1 c20 c21 f20 f21 n2 l2; have rc0 := hR.c0; have rc1 := hR.c1; have rf0 := hR.f0; have rf1 := hR.f1; have rn := hR.ne; have rl := hR.lt; have c10 := b1.c0; have c11 := b1.c1; have f10 := b1.f0; have f11 := b1.f1; have n1 := b1.ne; have l1 := b1.lt; have c20 := b2.c0; have c21 := b2.c1; have f20 := b2.f0; have f21 := b2.f1; have n2 := b2.ne; have l2 := b2.lt)
  have b1 := b1.but hR (But.set (w := wn) (R := R) (o := 1) (.bool false))
  have b2 := b2.but hR (But.set (w := wn) (R := R) (o := 1) (.bool false))
  have HA := Lib.hid (HA.out.but hR (But.set (w := wn) (R := R) (o := 1) (.bool false)))
  have hB := hB.trans (But.set (w := wn) (R := R) (o := 1) (.bool false))
  have hR := hR.set1 false
  clear rc0 rc1 rf0 rf1 rn rl c10 c11 f10 f11 n1 l1 c20 c21 f20 f21 n2 l2
  generalize wn.setCell ⟨R, 1, none⟩ (.bool false) = wn at *
  have rc0 := hR.c0
  have rc1 := hR.c1
  have rf0 := hR.f0
  have rf1 := hR.f1
  have rn := hR.ne
  have rl := hR.lt
  have c10 := b1.c0
  have c11 := b1.c1
  have f10 := b1.f0
  have f11 := b1.f1
  have n1 := b1.ne
  have l1 := b1.lt
  have c20 := b2.c0
  have c21 := b2.c1
  have f20 := b2.f0
  have f21 := b2.f1
  have n2 := b2.ne
  have l2 := b2.lt
  go_upto_region 11 with (go_at_call 58; with_reducible refine Calls.mono (I2.out _ hR) ?_; rintro e wn ⟨v, rfl, hv, hR1, hk⟩; obtain ⟨oX, qX, rfl, hoX⟩ := hv.shape'; have HX := Lib.hid hv; clear hv; have hR0 := hR; have hR := hR1; clear hR1; have b1 := b1.but hR0 hk; have b2 := b2.but hR0 hk; have HA := Lib.hid (HA.out.but hR0 hk); have hB := hB.trans hk; clear hk; clear rc0 rc1 rf0 rf1 rn rl c10 c11 f10 f11 n1 l1 c20 c21 f20 f21 n2 l2; have rc0 := hR.c0; have rc1 := hR.c1; have rf0 := hR.f0; have rf1 := hR.f1; have rn := hR.ne; have rl := hR.lt; have c10 := b1.c0; have c11 := b1.c1; have f10 := b1.f0; have f11 := b1.f1; have n1 := b1.ne; have l1 := b1.lt; have c20 := b2.c0; have c21 := b2.c1; have f20 := b2.f0; have f21 := b2.f1; have n2 := b2.ne; have l2 := b2.lt)
  have b3 := Bx.new wn oX qX
  have hRE : R ≠ wn.heap.size := by have := hR.lt; omega
  have hER : wn.heap.size ≠ R := Ne.symm hRE
  have hEB : wn.heap.size ≠ B := by have := b1.lt; omega
  have hED : wn.heap.size ≠ D := by have := b2.lt; omega
  have b1 := b1.alloc (.cells #[.bool oX, .pointer qX] 31)
  have b2 := b2.alloc (.cells #[.bool oX, .pointer qX] 31)
  have HA := Lib.hid (HA.out.alloc (.cells #[.bool oX, .pointer qX] 31))
  have HX := Lib.hid (HX.out.alloc (.cells #[.bool oX, .pointer qX] 31))
  have hB := hB.trans (But.of (bel0 _ (.cells #[.bool oX, .pointer qX] 31)))
  have hR := hR.alloc (.cells #[.bool oX, .pointer qX] 31)
  clear rc0 rc1 rf0 rf1 rn rl c10 c11 f10 f11 n1 l1 c20 c21 f20 f21 n2 l2
  generalize wn.alloc (.cells #[.bool oX, .pointer qX] 31) = wz at *
  obtain ⟨E, eE⟩ : ∃ E, wn.heap.size = E := ⟨_, rfl⟩
  rw [eE] at b3 hRE hER hEB hED ⊢
  have rc0 := hR.c0
  have rc1 := hR.c1
  have rf0 := hR.f0
  have rf1 := hR.f1
  have rn := hR.ne
  have rl := hR.lt
  have c10 := b1.c0
  have c11 := b1.c1
  have f10 := b1.f0
  have f11 := b1.f1
  have n1 := b1.ne
  have l1 := b1.lt
  have c20 := b2.c0
  have c21 := b2.c1
  have f20 := b2.f0
  have f21 := b2.f1
  have n2 := b2.ne
  have l2 := b2.lt
  have c30 := b3.c0
  have c31 := b3.c1
  have f30 := b3.f0
  have f31 := b3.f1
  have n3 := b3.ne
  have l3 := b3.lt
  go_upto_region 12 with (go_at_call_of 83 (Value.int IntKind.u8 41); with_reducible refine Calls.mono (take_is _ C41.out TK.out hR) ?_; rintro e wn ⟨rfl, hR1, hk⟩; have hR0 := hR; have hR := hR1; clear hR1; have b1 := b1.but hR0 hk; have b2 := b2.but hR0 hk; have b3 := b3.but hR0 hk; have HA := Lib.hid (HA.out.but hR0 hk); have HX := Lib.hid (HX.out.but hR0 hk); have hB := hB.trans hk; clear hk; clear rc0 rc1 rf0 rf1 rn rl c10 c11 f10 f11 n1 l1 c20 c21 f20 f21 n2 l2 c30 c31 f30 f31 n3 l3; have rc0 := hR.c0; have rc1 := hR.c1; have rf0 := hR.f0; have rf1 := hR.f1; have rn := hR.ne; have rl := hR.lt; have c10 := b1.c0; have c11 := b1.c1; have f10 := b1.f0; have f11 := b1.f1; have n1 := b1.ne; have l1 := b1.lt; have c20 := b2.c0; have c21 := b2.c1; have f20 := b2.f0; have f21 := b2.f1; have n2 := b2.ne; have l2 := b2.lt; have c30 := b3.c0; have c31 := b3.c1; have f30 := b3.f0; have f31 := b3.f1; have n3 := b3.ne; have l3 := b3.lt)
  have b1 := b1.but hR (But.set (w := wn) (R := R) (o := 1) (.bool false))
  have b2 := b2.but hR (But.set (w := wn) (R := R) (o := 1) (.bool false))
  have b3 := b3.but hR (But.set (w := wn) (R := R) (o := 1) (.bool false))
  have HA := Lib.hid (HA.out.but hR (But.set (w := wn) (R := R) (o := 1) (.bool false)))
  have HX := Lib.hid (HX.out.but hR (But.set (w := wn) (R := R) (o := 1) (.bool false)))
  have hB := hB.trans (But.set (w := wn) (R := R) (o := 1) (.bool false))
  have hR := hR.set1 false
  clear rc0 rc1 rf0 rf1 rn rl c10 c11 f10 f11 n1 l1 c20 c21 f20 f21 n2 l2 c30 c31 f30 f31 n3 l3
  generalize wn.setCell ⟨R, 1, none⟩ (.bool false) = wn at *
  have rc0 := hR.c0
  have rc1 := hR.c1
  have rf0 := hR.f0
  have rf1 := hR.f1
  have rn := hR.ne
  have rl := hR.lt
  have c10 := b1.c0
  have c11 := b1.c1
  have f10 := b1.f0
  have f11 := b1.f1
  have n1 := b1.ne
  have l1 := b1.lt
  have c20 := b2.c0
  have c21 := b2.c1
  have f20 := b2.f0
  have f21 := b2.f1
  have n2 := b2.ne
  have l2 := b2.lt
  have c30 := b3.c0
  have c31 := b3.c1
  have f30 := b3.f0
  have f31 := b3.f1
  have n3 := b3.ne
  have l3 := b3.lt
  go_upto_region 13 with (go_at_call 57; with_reducible refine Calls.mono (pair_any _ HA.out HX.out) ?_; rintro e wn ⟨v, rfl, hv, hk⟩; obtain ⟨oI, qI, rfl, hoI⟩ := hv.shape'; have HI := Lib.hid hv; clear hv; have b1 := b1.below hk; have b2 := b2.below hk; have b3 := b3.below hk; have HA := Lib.hid (HA.out.below hk); have HX := Lib.hid (HX.out.below hk); have hB := hB.trans (But.of hk); have hR := hR.below hk; clear hk; clear rc0 rc1 rf0 rf1 rn rl c10 c11 f10 f11 n1 l1 c20 c21 f20 f21 n2 l2 c30 c31 f30 f31 n3 l3; have rc0 := hR.c0; have rc1 := hR.c1; have rf0 := hR.f0; have rf1 := hR.f1; have rn := hR.ne; have rl := hR.lt; have c10 := b1.c0; have c11 := b1.c1; have f10 := b1.f0; have f11 := b1.f1; have n1 := b1.ne; have l1 := b1.lt; have c20 := b2.c0; have c21 := b2.c1; have f20 := b2.f0; have f21 := b2.f1; have n2 := b2.ne; have l2 := b2.lt; have c30 := b3.c0; have c31 := b3.c1; have f30 := b3.f0; have f31 := b3.f1; have n3 := b3.ne; have l3 := b3.lt)
  obtain ⟨bb, rfl⟩ := HI.out.ptr.1 HN.out
  have b4 := Bx.new wn oI (some ⟨bb, 0, none⟩)
  have hRF : R ≠ wn.heap.size := by have := hR.lt; omega
  have hFR : wn.heap.size ≠ R := Ne.symm hRF
  have hFB : wn.heap.size ≠ B := by have := b1.lt; omega
  have hFD : wn.heap.size ≠ D := by have := b2.lt; omega
  have hFE : wn.heap.size ≠ E := by have := b3.lt; omega
  have b1 := b1.alloc (.cells #[.bool oI, .pointer (some ⟨bb, 0, none⟩)] 31)
  have b2 := b2.alloc (.cells #[.bool oI, .pointer (some ⟨bb, 0, none⟩)] 31)
  have b3 := b3.alloc (.cells #[.bool oI, .pointer (some ⟨bb, 0, none⟩)] 31)
  have HI := Lib.hid (HI.out.alloc (.cells #[.bool oI, .pointer (some ⟨bb, 0, none⟩)] 31))
  have hB := hB.trans (But.of (bel0 _ (.cells #[.bool oI, .pointer (some ⟨bb, 0, none⟩)] 31)))
  have hR := hR.alloc (.cells #[.bool oI, .pointer (some ⟨bb, 0, none⟩)] 31)
  clear rc0 rc1 rf0 rf1 rn rl c10 c11 f10 f11 n1 l1 c20 c21 f20 f21 n2 l2 c30 c31 f30 f31 n3 l3
  generalize wn.alloc (.cells #[.bool oI, .pointer (some ⟨bb, 0, none⟩)] 31) = wz at *
  obtain ⟨F, eF⟩ : ∃ F, wn.heap.size = F := ⟨_, rfl⟩
  rw [eF] at b4 hRF hFR hFB hFD hFE ⊢
  have rc0 := hR.c0
  have rc1 := hR.c1
  have rf0 := hR.f0
  have rf1 := hR.f1
  have rn := hR.ne
  have rl := hR.lt
  have c10 := b1.c0
  have c11 := b1.c1
  have f10 := b1.f0
  have f11 := b1.f1
  have n1 := b1.ne
  have l1 := b1.lt
  have c20 := b2.c0
  have c21 := b2.c1
  have f20 := b2.f0
  have f21 := b2.f1
  have n2 := b2.ne
  have l2 := b2.lt
  have c30 := b3.c0
  have c31 := b3.c1
  have f30 := b3.f0
  have f31 := b3.f1
  have n3 := b3.ne
  have l3 := b3.lt
  have c40 := b4.c0
  have c41 := b4.c1
  have f40 := b4.f0
  have f41 := b4.f1
  have n4 := b4.ne
  have l4 := b4.lt
  go_wp2_with fail
  have e0 := endp (hB.trans (But.set (w := wz) (R := R) (o := 1) (.bool false))) (b1.but hR (But.set (w := wz) (R := R) (o := 1) (.bool false))) (hR.set1 false) (HI.out.but hR (But.set (w := wz) (R := R) (o := 1) (.bool false))) (by omega) oI (some ⟨bb, 0, none⟩)
  exact bodyPost_ret (v := .agg #[.bool oI, .pointer (some ⟨bb, 0, none⟩)]) (by simp [results, go_sem, *]) rfl ⟨_, rfl, e0⟩

set_option maxHeartbeats 1600000 in
theorem rid_p6 (f : Nat) (l : List UInt8) (h0 : (tk 48 l).2 = false) (h1 : (tk 49 l).2 = false) (h2 : (tk 40 l).2 = true) (tA tX : T) (lA lX lM lK : List UInt8) (hA : rid f (tk 40 l).1 false = (tA, lA, false)) (hX : rid f lM false = (tX, lX, false)) (hm : tk 44 lA = (lM, true)) (hk : tk 41 lX = (lK, true)) (hN : (T.pair tA tX).isN = false) (i1 : RidOk f (tk 40 l).1 false) (i2 : RidOk f lM false) : RidOk (f + 1) l false := by
  intro R w hR
  have rl0 := hR.lt
  have C48 : Hid (((48 : UInt8).toNat : Int) = 48) := Lib.hid rfl
  have C49 : Hid (((49 : UInt8).toNat : Int) = 49) := Lib.hid rfl
  have C40 : Hid (((40 : UInt8).toNat : Int) = 40) := Lib.hid rfl
  have C44 : Hid (((44 : UInt8).toNat : Int) = 44) := Lib.hid rfl
  have C41 : Hid (((41 : UInt8).toNat : Int) = 41) := Lib.hid rfl
  have HE := Lib.hid (show rid (f + 1) l false = (T.pair tA tX, lK, true) by
    rw [rid, if_neg (by rw [h0]; exact Bool.false_ne_true), if_neg (by rw [h1]; exact Bool.false_ne_true), if_pos h2]
    simp [hA, hX, hm, hk, hN])
  rw [HE.out]
  have T0 := Lib.hid (tk_no h0)
  have T1 := Lib.hid (tk_no h1)
  have T2 := Lib.hid (show tk 40 l = ((tk 40 l).1, true) by rw [← h2])
  have i1 := i1 R
  rw [hA] at i1
  have i2 := i2 R
  rw [hX] at i2
  have I1 := Lib.hid i1
  have I2 := Lib.hid i2
  have TM := Lib.hid hm
  have TK := Lib.hid hk
  have HN := Lib.hid hN
  clear h0 h1 h2 i1 i2 hA hX hm hk hN
  have b1 := Bx.new w false none
  have hR := hR.alloc (.cells #[.bool false, .pointer none] 31)
  have hB : But R w (w.alloc (.cells #[.bool false, .pointer none] 31)) := But.of (bel0 w _)
  have hBl := rl0
  have rc0 := hR.c0
  have rc1 := hR.c1
  have rf0 := hR.f0
  have rf1 := hR.f1
  have rn := hR.ne
  have rl := hR.lt
  have c10 := b1.c0
  have c11 := b1.c1
  have f10 := b1.f0
  have f11 := b1.f1
  have n1 := b1.ne
  have l1 := b1.lt
  go_enter Try.func58, Try.ntmps58
  go_wp2_with fail
  generalize w.alloc (.cells #[.bool false, .pointer none] 31) = w3 at *
  obtain ⟨B, hBB⟩ : ∃ B, w.heap.size = B := ⟨_, rfl⟩
  rw [hBB] at b1 c10 c11 f10 f11 n1 l1 hBl ⊢
  have hRB : R ≠ B := by omega
  have hBR : B ≠ R := by omega
  go_upto_region 9 with (first
    | (go_at_call_of 83 (Value.int IntKind.u8 48); with_reducible refine Calls.mono (take_is _ C48.out T0.out hR) ?_; rintro e wn ⟨rfl, hR1, hk⟩; have hR0 := hR; have hR := hR1; clear hR1; have b1 := b1.but hR0 hk; have hB := hB.trans hk; clear hk; clear rc0 rc1 rf0 rf1 rn rl c10 c11 f10 f11 n1 l1; have rc0 := hR.c0; have rc1 := hR.c1; have rf0 := hR.f0; have rf1 := hR.f1; have rn := hR.ne; have rl := hR.lt; have c10 := b1.c0; have c11 := b1.c1; have f10 := b1.f0; have f11 := b1.f1; have n1 := b1.ne; have l1 := b1.lt)
    | (go_at_call_of 83 (Value.int IntKind.u8 49); with_reducible refine Calls.mono (take_is _ C49.out T1.out hR) ?_; rintro e wn ⟨rfl, hR1, hk⟩; have hR0 := hR; have hR := hR1; clear hR1; have b1 := b1.but hR0 hk; have hB := hB.trans hk; clear hk; clear rc0 rc1 rf0 rf1 rn rl c10 c11 f10 f11 n1 l1; have rc0 := hR.c0; have rc1 := hR.c1; have rf0 := hR.f0; have rf1 := hR.f1; have rn := hR.ne; have rl := hR.lt; have c10 := b1.c0; have c11 := b1.c1; have f10 := b1.f0; have f11 := b1.f1; have n1 := b1.ne; have l1 := b1.lt)
    | (go_at_call_of 83 (Value.int IntKind.u8 40); with_reducible refine Calls.mono (take_is _ C40.out T2.out hR) ?_; rintro e wn ⟨rfl, hR1, hk⟩; have hR0 := hR; have hR := hR1; clear hR1; have b1 := b1.but hR0 hk; have hB := hB.trans hk; clear hk; clear rc0 rc1 rf0 rf1 rn rl c10 c11 f10 f11 n1 l1; have rc0 := hR.c0; have rc1 := hR.c1; have rf0 := hR.f0; have rf1 := hR.f1; have rn := hR.ne; have rl := hR.lt; have c10 := b1.c0; have c11 := b1.c1; have f10 := b1.f0; have f11 := b1.f1; have n1 := b1.ne; have l1 := b1.lt)
    | (go_at_call 58; with_reducible refine Calls.mono (I1.out _ hR) ?_; rintro e wn ⟨v, rfl, hv, hR1, hk⟩; obtain ⟨oA, qA, rfl, hoA⟩ := hv.shape'; have HA := Lib.hid hv; clear hv; have hR0 := hR; have hR := hR1; clear hR1; have b1 := b1.but hR0 hk; have hB := hB.trans hk; clear hk; clear rc0 rc1 rf0 rf1 rn rl c10 c11 f10 f11 n1 l1; have rc0 := hR.c0; have rc1 := hR.c1; have rf0 := hR.f0; have rf1 := hR.f1; have rn := hR.ne; have rl := hR.lt; have c10 := b1.c0; have c11 := b1.c1; have f10 := b1.f0; have f11 := b1.f1; have n1 := b1.ne; have l1 := b1.lt))
  have b2 := Bx.new wn oA qA
  have hRD : R ≠ wn.heap.size := by have := hR.lt; omega
  have hDR : wn.heap.size ≠ R := Ne.symm hRD
  have hDB : wn.heap.size ≠ B := by have := b1.lt; omega
  have b1 := b1.alloc (.cells #[.bool oA, .pointer qA] 31)
  have HA := Lib.hid (HA.out.alloc (.cells #[.bool oA, .pointer qA] 31))
  have hB := hB.trans (But.of (bel0 _ (.cells #[.bool oA, .pointer qA] 31)))
  have hR := hR.alloc (.cells #[.bool oA, .pointer qA] 31)
  clear rc0 rc1 rf0 rf1 rn rl c10 c11 f10 f11 n1 l1
  generalize wn.alloc (.cells #[.bool oA, .pointer qA] 31) = wz at *
  obtain ⟨D, eD⟩ : ∃ D, wn.heap.size = D := ⟨_, rfl⟩
  rw [eD] at b2 hRD hDR hDB ⊢
  have rc0 := hR.c0
  have rc1 := hR.c1
  have rf0 := hR.f0
  have rf1 := hR.f1
  have rn := hR.ne
  have rl := hR.lt
  have c10 := b1.c0
  have c11 := b1.c1
  have f10 := b1.f0
  have f11 := b1.f1
  have n1 := b1.ne
  have l1 := b1.lt
  have c20 := b2.c0
  have c21 := b2.c1
  have f20 := b2.f0
  have f21 := b2.f1
  have n2 := b2.ne
  have l2 := b2.lt
  go_upto_region 10 with (go_at_call_of 83 (Value.int IntKind.u8 44); with_reducible refine Calls.mono (take_is _ C44.out TM.out hR) ?_; rintro e wn ⟨rfl, hR1, hk⟩; have hR0 := hR; have hR := hR1; clear hR1; have b1 := b1.but hR0 hk; have b2 := b2.but hR0 hk; have HA := Lib.hid (HA.out.but hR0 hk); have hB := hB.trans hk; clear hk; clear rc0 rc1 rf0 rf1 rn rl c10 c11 f10 f11 n1 l1 c20 c21 f20 f21 n2 l2; have rc0 := hR.c0; have rc1 := hR.c1; have rf0 := hR.f0; have rf1 := hR.f1; have rn := hR.ne; have rl := hR.lt; have c10 := b1.c0; have c11 := b1.c1; have f10 := b1.f0; have f11 := b1.f1; have n1 := b1.ne; have l1 := b1.lt; have c20 := b2.c0; have c21 := b2.c1; have f20 := b2.f0; have f21 := b2.f1; have n2 := b2.ne; have l2 := b2.lt)
  have b1 := b1.but hR (But.set (w := wn) (R := R) (o := 1) (.bool false))
  have b2 := b2.but hR (But.set (w := wn) (R := R) (o := 1) (.bool false))
  have HA := Lib.hid (HA.out.but hR (But.set (w := wn) (R := R) (o := 1) (.bool false)))
  have hB := hB.trans (But.set (w := wn) (R := R) (o := 1) (.bool false))
  have hR := hR.set1 false
  clear rc0 rc1 rf0 rf1 rn rl c10 c11 f10 f11 n1 l1 c20 c21 f20 f21 n2 l2
  generalize wn.setCell ⟨R, 1, none⟩ (.bool false) = wn at *
  have rc0 := hR.c0
  have rc1 := hR.c1
  have rf0 := hR.f0
  have rf1 := hR.f1
  have rn := hR.ne
  have rl := hR.lt
  have c10 := b1.c0
  have c11 := b1.c1
  have f10 := b1.f0
  have f11 := b1.f1
  have n1 := b1.ne
  have l1 := b1.lt
  have c20 := b2.c0
  have c21 := b2.c1
  have f20 := b2.f0
  have f21 := b2.f1
  have n2 := b2.ne
  have l2 := b2.lt
  go_upto_region 11 with (go_at_call 58; with_reducible refine Calls.mono (I2.out _ hR) ?_; rintro e wn ⟨v, rfl, hv, hR1, hk⟩; obtain ⟨oX, qX, rfl, hoX⟩ := hv.shape'; have HX := Lib.hid hv; clear hv; have hR0 := hR; have hR := hR1; clear hR1; have b1 := b1.but hR0 hk; have b2 := b2.but hR0 hk; have HA := Lib.hid (HA.out.but hR0 hk); have hB := hB.trans hk; clear hk; clear rc0 rc1 rf0 rf1 rn rl c10 c11 f10 f11 n1 l1 c20 c21 f20 f21 n2 l2; have rc0 := hR.c0; have rc1 := hR.c1; have rf0 := hR.f0; have rf1 := hR.f1; have rn := hR.ne; have rl := hR.lt; have c10 := b1.c0; have c11 := b1.c1; have f10 := b1.f0; have f11 := b1.f1; have n1 := b1.ne; have l1 := b1.lt; have c20 := b2.c0; have c21 := b2.c1; have f20 := b2.f0; have f21 := b2.f1; have n2 := b2.ne; have l2 := b2.lt)
  have b3 := Bx.new wn oX qX
  have hRE : R ≠ wn.heap.size := by have := hR.lt; omega
  have hER : wn.heap.size ≠ R := Ne.symm hRE
  have hEB : wn.heap.size ≠ B := by have := b1.lt; omega
  have hED : wn.heap.size ≠ D := by have := b2.lt; omega
  have b1 := b1.alloc (.cells #[.bool oX, .pointer qX] 31)
  have b2 := b2.alloc (.cells #[.bool oX, .pointer qX] 31)
  have HA := Lib.hid (HA.out.alloc (.cells #[.bool oX, .pointer qX] 31))
  have HX := Lib.hid (HX.out.alloc (.cells #[.bool oX, .pointer qX] 31))
  have hB := hB.trans (But.of (bel0 _ (.cells #[.bool oX, .pointer qX] 31)))
  have hR := hR.alloc (.cells #[.bool oX, .pointer qX] 31)
  clear rc0 rc1 rf0 rf1 rn rl c10 c11 f10 f11 n1 l1 c20 c21 f20 f21 n2 l2
  generalize wn.alloc (.cells #[.bool oX, .pointer qX] 31) = wz at *
  obtain ⟨E, eE⟩ : ∃ E, wn.heap.size = E := ⟨_, rfl⟩
  rw [eE] at b3 hRE hER hEB hED ⊢
  have rc0 := hR.c0
  have rc1 := hR.c1
  have rf0 := hR.f0
  have rf1 := hR.f1
  have rn := hR.ne
  have rl := hR.lt
  have c10 := b1.c0
  have c11 := b1.c1
  have f10 := b1.f0
  have f11 := b1.f1
  have n1 := b1.ne
  have l1 := b1.lt
  have c20 := b2.c0
  have c21 := b2.c1
  have f20 := b2.f0
  have f21 := b2.f1
  have n2 := b2.ne
  have l2 := b2.lt
  have c30 := b3.c0
  have c31 := b3.c1
  have f30 := b3.f0
  have f31 := b3.f1
  have n3 := b3.ne
  have l3 := b3.lt
  go_upto_region 12 with (go_at_call_of 83 (Value.int IntKind.u8 41); with_reducible refine Calls.mono (take_is _ C41.out TK.out hR) ?_; rintro e wn ⟨rfl, hR1, hk⟩; have hR0 := hR; have hR := hR1; clear hR1; have b1 := b1.but hR0 hk; have b2 := b2.but hR0 hk; have b3 := b3.but hR0 hk; have HA := Lib.hid (HA.out.but hR0 hk); have HX := Lib.hid (HX.out.but hR0 hk); have hB := hB.trans hk; clear hk; clear rc0 rc1 rf0 rf1 rn rl c10 c11 f10 f11 n1 l1 c20 c21 f20 f21 n2 l2 c30 c31 f30 f31 n3 l3; have rc0 := hR.c0; have rc1 := hR.c1; have rf0 := hR.f0; have rf1 := hR.f1; have rn := hR.ne; have rl := hR.lt; have c10 := b1.c0; have c11 := b1.c1; have f10 := b1.f0; have f11 := b1.f1; have n1 := b1.ne; have l1 := b1.lt; have c20 := b2.c0; have c21 := b2.c1; have f20 := b2.f0; have f21 := b2.f1; have n2 := b2.ne; have l2 := b2.lt; have c30 := b3.c0; have c31 := b3.c1; have f30 := b3.f0; have f31 := b3.f1; have n3 := b3.ne; have l3 := b3.lt)
  have b1 := b1.but hR (But.set (w := wn) (R := R) (o := 1) (.bool false))
  have b2 := b2.but hR (But.set (w := wn) (R := R) (o := 1) (.bool false))
  have b3 := b3.but hR (But.set (w := wn) (R := R) (o := 1) (.bool false))
  have HA := Lib.hid (HA.out.but hR (But.set (w := wn) (R := R) (o := 1) (.bool false)))
  have HX := Lib.hid (HX.out.but hR (But.set (w := wn) (R := R) (o := 1) (.bool false)))
  have hB := hB.trans (But.set (w := wn) (R := R) (o := 1) (.bool false))
  have hR := hR.set1 false
  clear rc0 rc1 rf0 rf1 rn rl c10 c11 f10 f11 n1 l1 c20 c21 f20 f21 n2 l2 c30 c31 f30 f31 n3 l3
  generalize wn.setCell ⟨R, 1, none⟩ (.bool false) = wn at *
  have rc0 := hR.c0
  have rc1 := hR.c1
  have rf0 := hR.f0
  have rf1 := hR.f1
  have rn := hR.ne
  have rl := hR.lt
  have c10 := b1.c0
  have c11 := b1.c1
  have f10 := b1.f0
  have f11 := b1.f1
  have n1 := b1.ne
  have l1 := b1.lt
  have c20 := b2.c0
  have c21 := b2.c1
  have f20 := b2.f0
  have f21 := b2.f1
  have n2 := b2.ne
  have l2 := b2.lt
  have c30 := b3.c0
  have c31 := b3.c1
  have f30 := b3.f0
  have f31 := b3.f1
  have n3 := b3.ne
  have l3 := b3.lt
  go_upto_region 13 with (go_at_call 57; with_reducible refine Calls.mono (pair_any _ HA.out HX.out) ?_; rintro e wn ⟨v, rfl, hv, hk⟩; obtain ⟨oI, qI, rfl, hoI⟩ := hv.shape'; have HI := Lib.hid hv; clear hv; have b1 := b1.below hk; have b2 := b2.below hk; have b3 := b3.below hk; have HA := Lib.hid (HA.out.below hk); have HX := Lib.hid (HX.out.below hk); have hB := hB.trans (But.of hk); have hR := hR.below hk; clear hk; clear rc0 rc1 rf0 rf1 rn rl c10 c11 f10 f11 n1 l1 c20 c21 f20 f21 n2 l2 c30 c31 f30 f31 n3 l3; have rc0 := hR.c0; have rc1 := hR.c1; have rf0 := hR.f0; have rf1 := hR.f1; have rn := hR.ne; have rl := hR.lt; have c10 := b1.c0; have c11 := b1.c1; have f10 := b1.f0; have f11 := b1.f1; have n1 := b1.ne; have l1 := b1.lt; have c20 := b2.c0; have c21 := b2.c1; have f20 := b2.f0; have f21 := b2.f1; have n2 := b2.ne; have l2 := b2.lt; have c30 := b3.c0; have c31 := b3.c1; have f30 := b3.f0; have f31 := b3.f1; have n3 := b3.ne; have l3 := b3.lt)
  obtain rfl := HI.out.ptr.2 HN.out
  have b4 := Bx.new wn oI none
  have hRF : R ≠ wn.heap.size := by have := hR.lt; omega
  have hFR : wn.heap.size ≠ R := Ne.symm hRF
  have hFB : wn.heap.size ≠ B := by have := b1.lt; omega
  have hFD : wn.heap.size ≠ D := by have := b2.lt; omega
  have hFE : wn.heap.size ≠ E := by have := b3.lt; omega
  have b1 := b1.alloc (.cells #[.bool oI, .pointer none] 31)
  have b2 := b2.alloc (.cells #[.bool oI, .pointer none] 31)
  have b3 := b3.alloc (.cells #[.bool oI, .pointer none] 31)
  have HI := Lib.hid (HI.out.alloc (.cells #[.bool oI, .pointer none] 31))
  have hB := hB.trans (But.of (bel0 _ (.cells #[.bool oI, .pointer none] 31)))
  have hR := hR.alloc (.cells #[.bool oI, .pointer none] 31)
  clear rc0 rc1 rf0 rf1 rn rl c10 c11 f10 f11 n1 l1 c20 c21 f20 f21 n2 l2 c30 c31 f30 f31 n3 l3
  generalize wn.alloc (.cells #[.bool oI, .pointer none] 31) = wz at *
  obtain ⟨F, eF⟩ : ∃ F, wn.heap.size = F := ⟨_, rfl⟩
  rw [eF] at b4 hRF hFR hFB hFD hFE ⊢
  have rc0 := hR.c0
  have rc1 := hR.c1
  have rf0 := hR.f0
  have rf1 := hR.f1
  have rn := hR.ne
  have rl := hR.lt
  have c10 := b1.c0
  have c11 := b1.c1
  have f10 := b1.f0
  have f11 := b1.f1
  have n1 := b1.ne
  have l1 := b1.lt
  have c20 := b2.c0
  have c21 := b2.c1
  have f20 := b2.f0
  have f21 := b2.f1
  have n2 := b2.ne
  have l2 := b2.lt
  have c30 := b3.c0
  have c31 := b3.c1
  have f30 := b3.f0
  have f31 := b3.f1
  have n3 := b3.ne
  have l3 := b3.lt
  have c40 := b4.c0
  have c41 := b4.c1
  have f40 := b4.f0
  have f41 := b4.f1
  have n4 := b4.ne
  have l4 := b4.lt
  go_wp2_with fail
  have e0 := endp (hB.trans (But.set (w := wz) (R := R) (o := 1) (.bool true))) (b1.but hR (But.set (w := wz) (R := R) (o := 1) (.bool true))) (hR.set1 true) (HI.out.but hR (But.set (w := wz) (R := R) (o := 1) (.bool true))) (by omega) oI none
  exact bodyPost_ret (v := .agg #[.bool oI, .pointer none]) (by simp [results, go_sem, *]) rfl ⟨_, rfl, e0⟩

theorem rid_any : ∀ (f : Nat) (l : List UInt8) (bad : Bool), l.length < f → RidOk f l bad
  | 0, _, _, h => by omega
  | f + 1, l, true, _ => rid_bad _ _
  | f + 1, l, false, h => by
    cases h0 : (tk 48 l).2 with
    | true => exact rid_0 f l h0
    | false =>
    cases h1 : (tk 49 l).2 with
    | true => exact rid_1 f l h0 h1
    | false =>
    cases h2 : (tk 40 l).2 with
    | false => exact rid_x f l h0 h1 h2
    | true =>
    have hl := congrArg List.length (tk_yes h2)
    simp only [List.length_cons] at hl
    have i1 := rid_any f (tk 40 l).1 false (by omega)
    obtain ⟨⟨tA, lA, bA⟩, hA⟩ : ∃ r, rid f (tk 40 l).1 false = r := ⟨_, rfl⟩
    have hlA : lA.length ≤ (tk 40 l).1.length := by
      have := rid_len f (tk 40 l).1 false
      rw [hA] at this
      exact this
    have hz : rid f lA true = (.z, lA, true) := by cases f <;> rfl
    cases bA with
    | true => exact rid_p1 f l h0 h1 h2 tA .z lA lA hA hz i1 (rid_any f lA true (by omega))
    | false =>
    cases hm : (tk 44 lA).2 with
    | false => exact rid_p2 f l h0 h1 h2 tA .z lA lA hA hz (tk_no hm) i1 (rid_any f lA true (by omega))
    | true =>
    have hm' : tk 44 lA = ((tk 44 lA).1, true) := by rw [← hm]
    have hlM := tk_len 44 lA
    have i2 := rid_any f (tk 44 lA).1 false (by omega)
    obtain ⟨⟨tX, lX, bX⟩, hX⟩ : ∃ r, rid f (tk 44 lA).1 false = r := ⟨_, rfl⟩
    cases bX with
    | true => exact rid_p3 f l h0 h1 h2 tA tX lA lX _ hA hX hm' i1 i2
    | false =>
    cases hk : (tk 41 lX).2 with
    | false => exact rid_p4 f l h0 h1 h2 tA tX lA lX _ hA hX hm' (tk_no hk) i1 i2
    | true =>
    have hk' : tk 41 lX = ((tk 41 lX).1, true) := by rw [← hk]
    cases hN : (T.pair tA tX).isN with
    | true => exact rid_p5 f l h0 h1 h2 tA tX lA lX _ _ hA hX hm' hk' hN i1 i2
    | false => exact rid_p6 f l h0 h1 h2 tA tX lA lX _ _ hA hX hm' hk' hN i1 i2
end Go.Proofs.Ytigkjmfkpmehlaa
