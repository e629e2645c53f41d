/- id's reader: its block; take. -/
import Derived.Test.YtigkjmfkpmehlaaText
namespace Go.Proofs.Ytigkjmfkpmehlaa
open Go.RowKit

/-- The text of a list of bytes. -/
def bs (l : List UInt8) : ByteArray := ⟨l.toArray⟩
theorem bs_extract (x : UInt8) (t : List UInt8) : (bs (x :: t)).extract 1 (bs (x :: t)).size = bs t := by
  apply ByteArray.ext
  simp [bs, ByteArray.data_extract, ByteArray.size]
theorem bs_toList (l : List UInt8) : (bs l).toList = l := by simp [bs]
theorem bs_size (l : List UInt8) : (bs l).size = l.length := by simp [bs, ByteArray.size]
theorem bs_append (l m : List UInt8) : bs l ++ bs m = bs (l ++ m) := by
  apply ByteArray.ext
  simp [bs]
/-- A reader's block. -/
def Rd (w : World) (b : Nat) (s : ByteArray) (bad : Bool) : Prop := w.heap[b]? = some (.cells #[.string s, .bool bad] 89 (0, 0))
theorem Rd.c0 {w : World} {b : Nat} {s : ByteArray} {bad : Bool} (h : Rd w b s bad) : w.cell? ⟨b, 0, none⟩ = some (.string s) := blk_cell h 0
theorem Rd.c1 {w : World} {b : Nat} {s : ByteArray} {bad : Bool} (h : Rd w b s bad) : w.cell? ⟨b, 1, none⟩ = some (.bool bad) := blk_cell h 1
theorem Rd.f0 {w : World} {b : Nat} {s : ByteArray} {bad : Bool} (h : Rd w b s bad) : w.frozen? ⟨b, 0, none⟩ = false := blk_frozen h 0
theorem Rd.f1 {w : World} {b : Nat} {s : ByteArray} {bad : Bool} (h : Rd w b s bad) : w.frozen? ⟨b, 1, none⟩ = false := blk_frozen h 1
theorem Rd.lt {w : World} {b : Nat} {s : ByteArray} {bad : Bool} (h : Rd w b s bad) : b < w.heap.size := blk_lt h
theorem Rd.ne {w : World} {b : Nat} {s : ByteArray} {bad : Bool} (h : Rd w b s bad) : w.heap.size ≠ b := by have := h.lt; omega
theorem Rd.below {w w' : World} {b : Nat} {s : ByteArray} {bad : Bool} (h : Rd w b s bad) (hb : Below w.heap.size w w') : Rd w' b s bad := (hb.block b (blk_lt h)).trans h
theorem Rd.alloc {w : World} {b : Nat} {s : ByteArray} {bad : Bool} (h : Rd w b s bad) (o : Obj) : Rd (w.alloc o) b s bad := h.below (bel0 w o)
theorem Rd.set0 {w : World} {b : Nat} {s : ByteArray} {bad : Bool} (h : Rd w b s bad) (s' : ByteArray) : Rd (w.setCell ⟨b, 0, none⟩ (.string s')) b s' bad := blk_set h 0 (.string s')
theorem Rd.set1 {w : World} {b : Nat} {s : ByteArray} {bad : Bool} (h : Rd w b s bad) (x : Bool) : Rd (w.setCell ⟨b, 1, none⟩ (.bool x)) b s x := blk_set h 1 (.bool x)
/-- All blocks but one stay as they are. -/
structure But (R : Nat) (w w' : World) : Prop where
  os : w'.os = w.os
  tape : w'.tape = w.tape
  output : w'.output = w.output
  size : w.heap.size ≤ w'.heap.size
  block : ∀ k, k < w.heap.size → k ≠ R → w'.heap[k]? = w.heap[k]?
theorem But.refl (R : Nat) (w : World) : But R w w := ⟨rfl, rfl, rfl, Nat.le_refl _, fun _ _ _ => rfl⟩
theorem But.trans {R : Nat} {a b c : World} (h : But R a b) (k : But R b c) : But R a c :=
  ⟨k.os.trans h.os, k.tape.trans h.tape, k.output.trans h.output, Nat.le_trans h.size k.size, fun i hi hr => (k.block i (by have := h.size; omega) hr).trans (h.block i hi hr)⟩
theorem But.of {R : Nat} {w w' : World} (h : Below w.heap.size w w') : But R w w' := ⟨h.os, h.tape, h.output, h.size, fun k hk _ => h.block k hk⟩
theorem But.set {w : World} {R o : Nat} (v : Value) : But R w (w.setCell ⟨R, o, none⟩ v) :=
  ⟨rfl, rfl, rfl, by rw [ssz]; omega, fun k _ hr => Below.heap_setCell _ _ _ _ hr⟩
theorem But.below {R B : Nat} {w w' : World} (h : But R w w') (h1 : B ≤ R) (h2 : B ≤ w.heap.size) : Below B w w' := ⟨h.os, h.tape, h.output, h.size, fun k hk => h.block k (by omega) (by omega)⟩
theorem Bx.but {w w' : World} {R b : Nat} {a : Bool} {p : Option Addr} {s : ByteArray} {bad : Bool} (h : Bx w b a p) (hR : Rd w R s bad) (hk : But R w w') : Bx w' b a p := by
  refine (hk.block b (blk_lt h) ?_).trans h
  rintro rfl
  have := hR.symm.trans h
  simp at this
theorem Kp.but {w w' : World} {R : Nat} {s : ByteArray} {bad : Bool} (hR : Rd w R s bad) (hk : But R w w') : Kp w w' := fun b cs h => by
  refine (hk.block b (blk_lt h) ?_).trans h
  rintro rfl
  have := hR.symm.trans h
  simp at this
theorem IDV.but {w w' : World} {R : Nat} {t : T} {v : Value} {s : ByteArray} {bad : Bool} (h : IDV w t v) (hR : Rd w R s bad) (hk : But R w w') : IDV w' t v := h.kp (Kp.but hR hk)

/-- What take comes to: what is left; was the sign there? -/
def tk (c : UInt8) : List UInt8 → List UInt8 × Bool
  | [] => ([], false)
  | x :: t => if x = c then (t, true) else (x :: t, false)
theorem toNat_bne {x c : UInt8} (h : x ≠ c) : ((x.toNat : Int) != (c.toNat : Int)) = true := by
  simp only [bne_iff_ne, ne_eq]
  intro hh
  exact h (UInt8.toNat_inj.1 (by omega))
theorem take_nil {R : Nat} {bad : Bool} {c : Int} (w : World) (h : Rd w R ⟨#[]⟩ bad) : Calls Try.prog 83 #[.pointer (some ⟨R, 0, none⟩), .int .u8 c] w fun e w' => e = .returned (.bool false) ∧ w' = w := by
  have c0 := h.c0
  go_enter Try.func83, Try.ntmps83
  go_wp2_with fail
  go_ret
  exact ⟨rfl, rfl⟩
theorem take_no {R : Nat} {bad : Bool} {c : Int} {s : ByteArray} {x : UInt8} (w : World) (h : Rd w R s bad) (_he : ¬ s.toList = []) (he' : s.toList.isEmpty = false) (hp : 0 < s.size) (hx : s[0] = x) (hc : ((x.toNat : Int) != c) = true) :
    Calls Try.prog 83 #[.pointer (some ⟨R, 0, none⟩), .int .u8 c] w fun e w' => e = .returned (.bool false) ∧ w' = w := by
  have c0 := h.c0
  go_enter Try.func83, Try.ntmps83
  go_wp2_with fail
  go_ret
  exact ⟨rfl, rfl⟩
theorem take_yes {R : Nat} {bad : Bool} {c : Int} {s : ByteArray} {x : UInt8} (w : World) (h : Rd w R s bad) (_he : ¬ s.toList = []) (he' : s.toList.isEmpty = false) (hp : 0 < s.size) (hx : s[0] = x) (hc : ((x.toNat : Int) != c) = false) :
    Calls Try.prog 83 #[.pointer (some ⟨R, 0, none⟩), .int .u8 c] w fun e w' => e = .returned (.bool true) ∧ w' = w.setCell ⟨R, 0, none⟩ (.string (s.extract 1 s.size)) := by
  have c0 := h.c0
  have f0 := h.f0
  go_enter Try.func83, Try.ntmps83
  go_wp2_with fail
  go_ret
  exact ⟨rfl, rfl⟩
theorem take_any {R : Nat} {bad : Bool} {c : Int} {cu : UInt8} {l : List UInt8} (w : World) (hc : (cu.toNat : Int) = c) (h : Rd w R (bs l) bad) :
    Calls Try.prog 83 #[.pointer (some ⟨R, 0, none⟩), .int .u8 c] w fun e w' => e = .returned (.bool (tk cu l).2) ∧ Rd w' R (bs (tk cu l).1) bad ∧ But R w w' := by
  subst hc
  cases l with
  | nil =>
    refine Calls.mono (take_nil w h) ?_
    rintro e w' ⟨rfl, rfl⟩
    exact ⟨rfl, h, But.refl _ _⟩
  | cons x t =>
    have he : ¬ (bs (x :: t)).toList = [] := by rw [bs_toList]; simp
    have he' : (bs (x :: t)).toList.isEmpty = false := by rw [bs_toList]; rfl
    have hp : 0 < (bs (x :: t)).size := by rw [bs_size]; simp
    by_cases hx : x = cu
    · subst hx
      refine Calls.mono (take_yes (x := x) w h he he' hp rfl (by simp)) ?_
      rintro e w' ⟨rfl, rfl⟩
      rw [bs_extract]
      simp only [tk, if_true]
      exact ⟨trivial, h.set0 _, But.set _⟩
    · refine Calls.mono (take_no (x := x) w h he he' hp rfl (toNat_bne hx)) ?_
      rintro e w' ⟨rfl, rfl⟩
      simp only [tk, if_neg hx]
      exact ⟨trivial, h, But.refl _ _⟩
theorem take_is {R : Nat} {bad b : Bool} {c : Int} {cu : UInt8} {l l' : List UInt8} (w : World) (hc : (cu.toNat : Int) = c) (ht : tk cu l = (l', b)) (h : Rd w R (bs l) bad) :
    Calls Try.prog 83 #[.pointer (some ⟨R, 0, none⟩), .int .u8 c] w fun e w' => e = .returned (.bool b) ∧ Rd w' R (bs l') bad ∧ But R w w' := by
  have := take_any w hc h
  rw [ht] at this
  exact this
end Go.Proofs.Ytigkjmfkpmehlaa
