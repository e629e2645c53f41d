/- Ids as trees: what a value of type ID stands for; Zero, One, IsZero, IsOne, Left, Right. -/
import Derived.Test.YtigkjmfkpmehlaaProg
import Derived.WalkKit
import Derived.WalkLawsBesides
import Derived.WalkSpells
import Derived.Lib.Hide
import Derived.Deep.DeepCutAuto
import Derived.Deep.QuietTactic
import Derived.BigQuiet
import Derived.Maps.AppendAt
import Derived.WalkSmall
import Derived.Deep.RegionHeld3
namespace Go.Proofs.Ytigkjmfkpmehlaa
open Go.RowKit

inductive T where
  | z | o | n (l r : T)
deriving DecidableEq, Repr

namespace T
def isZ : T → Bool | z => true | _ => false
def isO : T → Bool | o => true | _ => false
def left : T → T | n l _ => l | t => t
def right : T → T | n _ r => r | t => t
def depth : T → Nat | n l r => 1 + max l.depth r.depth | _ => 0
def pair (l r : T) : T := if l.isZ && r.isZ then z else if l.isO && r.isO then o else n l r
end T

/-- What a value of type ID stands for. -/
def IDV (w : World) : T → Value → Prop
  | .z, v => v = .agg #[.bool false, .pointer none]
  | .o, v => v = .agg #[.bool true, .pointer none]
  | .n l r, v => ∃ b pl pr, v = .agg #[.bool false, .pointer (some ⟨b, 0, none⟩)] ∧ w.heap[b]? = some (.cells #[.bool l.isO, .pointer pl, .bool r.isO, .pointer pr] 85 (0, 0)) ∧ IDV w l (.agg #[.bool l.isO, .pointer pl]) ∧ IDV w r (.agg #[.bool r.isO, .pointer pr])

theorem blk_lt {w : World} {b : Nat} {o : Obj} (h : w.heap[b]? = some o) : b < w.heap.size := by
  obtain ⟨h, _⟩ := Array.getElem?_eq_some_iff.1 h
  exact h
/-- The blocks of pairs stay as they are. -/
def Kp (w w' : World) : Prop := ∀ (b : Nat) (cs : Array Value), w.heap[b]? = some (.cells cs 85 (0, 0)) → w'.heap[b]? = some (.cells cs 85 (0, 0))
theorem Kp.refl (w : World) : Kp w w := fun _ _ h => h
theorem Kp.trans {a b c : World} (h : Kp a b) (k : Kp b c) : Kp a c := fun x cs hx => k x cs (h x cs hx)
theorem Kp.of {w w' : World} (h : Below w.heap.size w w') : Kp w w' := fun b _ hx => (h.block b (blk_lt hx)).trans hx
theorem IDV.kp {w w' : World} (hb : Kp w w') : ∀ {t : T} {v : Value}, IDV w t v → IDV w' t v
  | .z, _, h => h
  | .o, _, h => h
  | .n _ _, _, ⟨b, pl, pr, hv, hc, hl, hr⟩ => ⟨b, pl, pr, hv, hb b _ hc, IDV.kp hb hl, IDV.kp hb hr⟩
theorem IDV.below {w w' : World} (hb : Below w.heap.size w w') {t : T} {v : Value} (h : IDV w t v) : IDV w' t v := h.kp (Kp.of hb)
theorem IDV.shape {w : World} : ∀ {t : T} {v : Value}, IDV w t v → ∃ p, v = .agg #[.bool t.isO, .pointer p]
  | .z, _, h => ⟨_, h⟩
  | .o, _, h => ⟨_, h⟩
  | .n _ _, _, ⟨_, _, _, hv, _⟩ => ⟨_, hv⟩
theorem bel0 (w : World) (o : Obj) : Below w.heap.size w (w.alloc o) := (Below.refl _ _).alloc (Nat.le_refl _) _
theorem Kp.alloc {a w : World} (h : Kp a w) (o : Obj) : Kp a (w.alloc o) := h.trans (Kp.of (bel0 w o))
theorem Kp.set {a w : World} {R o : Nat} {cs : Array Value} {ty : TypeId} {u : Value} (h : Kp a w) (hR : w.heap[R]? = some (.cells cs ty (0, 0))) (hty : ty ≠ 85) : Kp a (w.setCell ⟨R, o, none⟩ u) := fun b cs' hb => by
  have hne : b ≠ R := by
    rintro rfl
    have := (h b cs' hb).symm.trans hR
    simp at this
    exact hty this.2.symm
  exact (Below.heap_setCell _ _ _ _ hne).trans (h b cs' hb)
theorem Kp.drewN {a w : World} (h : Kp a w) (n : Nat) : Kp a (w.drewN n) := h
/-- A box of an ID. -/
def Bx (w : World) (b : Nat) (a : Bool) (p : Option Addr) : Prop := w.heap[b]? = some (.cells #[.bool a, .pointer p] 31 (0, 0))
theorem IDV.alloc {w : World} {t : T} {v : Value} (h : IDV w t v) (o : Obj) : IDV (w.alloc o) t v := h.below (bel0 w o)

theorem blk_cell {w : World} {b : Nat} {cs : Array Value} {t : TypeId} (h : w.heap[b]? = some (.cells cs t (0, 0))) (o : Nat) : w.cell? ⟨b, o, none⟩ = cs[o]? := by
  simp [World.cell?, h]
theorem blk_frozen {w : World} {b : Nat} {cs : Array Value} {t : TypeId} (h : w.heap[b]? = some (.cells cs t (0, 0))) (o : Nat) : w.frozen? ⟨b, o, none⟩ = false := by
  simp [World.frozen?, h]
theorem Bx.below {w w' : World} {b : Nat} {a : Bool} {p : Option Addr} (h : Bx w b a p) (hb : Below w.heap.size w w') : Bx w' b a p := (hb.block b (blk_lt h)).trans h
theorem Bx.new (w : World) (a : Bool) (p : Option Addr) : Bx (w.alloc (.cells #[.bool a, .pointer p] 31)) w.heap.size a p := heap_alloc_new w _
theorem Bx.alloc {w : World} {b : Nat} {a : Bool} {p : Option Addr} (h : Bx w b a p) (o : Obj) : Bx (w.alloc o) b a p := h.below (bel0 w o)
theorem Bx.c0 {w : World} {b : Nat} {a : Bool} {p : Option Addr} (h : Bx w b a p) : w.cell? ⟨b, 0, none⟩ = some (.bool a) := blk_cell h 0
theorem Bx.c1 {w : World} {b : Nat} {a : Bool} {p : Option Addr} (h : Bx w b a p) : w.cell? ⟨b, 1, none⟩ = some (.pointer p) := blk_cell h 1
theorem Bx.f0 {w : World} {b : Nat} {a : Bool} {p : Option Addr} (h : Bx w b a p) : w.frozen? ⟨b, 0, none⟩ = false := blk_frozen h 0
theorem Bx.f1 {w : World} {b : Nat} {a : Bool} {p : Option Addr} (h : Bx w b a p) : w.frozen? ⟨b, 1, none⟩ = false := blk_frozen h 1

theorem zero_any (w : World) : Calls Try.prog 21 #[] w fun e w' => ∃ v, e = .returned v ∧ IDV w' .z v ∧ Below w.heap.size w w' := by
  go_enter Try.func21, Try.ntmps21
  go_wp2_with fail
  exact bodyPost_ret (v := .agg #[.bool false, .pointer none]) (by simp [results, Try.results21, go_sem]) rfl ⟨_, rfl, rfl, bel0 _ _⟩
theorem one_any (w : World) : Calls Try.prog 18 #[] w fun e w' => ∃ v, e = .returned v ∧ IDV w' .o v ∧ Below w.heap.size w w' := by
  go_enter Try.func18, Try.ntmps18
  go_wp2_with fail
  exact bodyPost_ret (v := .agg #[.bool true, .pointer none]) (by simp [results, Try.results18, go_sem]) rfl ⟨_, rfl, rfl, bel0 _ _⟩
theorem isZero_any {t : T} {v : Value} (w : World) (h : IDV w t v) : Calls Try.prog 24 #[v] w fun e w' => e = .returned (.bool t.isZ) ∧ Below w.heap.size w w' := by
  cases t with
  | z =>
    subst h
    go_enter Try.func24, Try.ntmps24
    go_wp2_with fail
    go_ret
    exact ⟨rfl, bel0 _ _⟩
  | o =>
    subst h
    go_enter Try.func24, Try.ntmps24
    go_wp2_with fail
    go_ret
    exact ⟨rfl, bel0 _ _⟩
  | n l r =>
    obtain ⟨b, pl, pr, rfl, hc, hl, hr⟩ := h
    clear hl hr
    go_enter Try.func24, Try.ntmps24
    go_wp2_with fail
    go_ret
    exact ⟨rfl, bel0 _ _⟩
theorem isOne_any {t : T} {v : Value} (w : World) (h : IDV w t v) : Calls Try.prog 25 #[v] w fun e w' => e = .returned (.bool t.isO) ∧ Below w.heap.size w w' := by
  obtain ⟨p, rfl⟩ := h.shape
  clear h
  go_enter Try.func25, Try.ntmps25
  go_wp2_with fail
  go_ret
  exact ⟨rfl, bel0 _ _⟩
theorem bel1 (w : World) (o o' : Obj) : Below w.heap.size w ((w.alloc o).alloc o') := (bel0 w o).alloc (by simp) _
theorem left_any {t : T} {v : Value} (w : World) (h : IDV w t v) : Calls Try.prog 32 #[v] w fun e w' => ∃ v', e = .returned v' ∧ IDV w' t.left v' ∧ Below w.heap.size w w' := by
  cases t with
  | z =>
    subst h
    go_enter Try.func32, Try.ntmps32
    go_wp2_with fail
    exact bodyPost_ret (v := .agg #[.bool false, .pointer none]) (by simp [results, Try.results32, go_sem]) rfl ⟨_, rfl, rfl, bel1 _ _ _⟩
  | o =>
    subst h
    go_enter Try.func32, Try.ntmps32
    go_wp2_with fail
    exact bodyPost_ret (v := .agg #[.bool true, .pointer none]) (by simp [results, Try.results32, go_sem]) rfl ⟨_, rfl, rfl, bel1 _ _ _⟩
  | n l r =>
    obtain ⟨b, pl, pr, rfl, hc, hl, hr⟩ := h
    have h0 : w.cell? ⟨b, 0, none⟩ = some (.bool l.isO) := blk_cell hc 0
    have h1 : w.cell? ⟨b, 1, none⟩ = some (.pointer pl) := blk_cell hc 1
    have hb := blk_lt hc
    have hn1 : w.heap.size ≠ b := by omega
    have hn2 : w.heap.size + 1 ≠ b := by omega
    have HL := Lib.hid hl
    clear hl hr hc
    go_enter Try.func32, Try.ntmps32
    go_wp2_with fail
    exact bodyPost_ret (v := .agg #[.bool l.isO, .pointer pl]) (by simp [results, Try.results32, go_sem]) rfl ⟨_, rfl, HL.out.below (bel1 _ _ _), bel1 _ _ _⟩
theorem right_any {t : T} {v : Value} (w : World) (h : IDV w t v) : Calls Try.prog 33 #[v] w fun e w' => ∃ v', e = .returned v' ∧ IDV w' t.right v' ∧ Below w.heap.size w w' := by
  cases t with
  | z =>
    subst h
    go_enter Try.func33, Try.ntmps33
    go_wp2_with fail
    exact bodyPost_ret (v := .agg #[.bool false, .pointer none]) (by simp [results, Try.results33, go_sem]) rfl ⟨_, rfl, rfl, bel1 _ _ _⟩
  | o =>
    subst h
    go_enter Try.func33, Try.ntmps33
    go_wp2_with fail
    exact bodyPost_ret (v := .agg #[.bool true, .pointer none]) (by simp [results, Try.results33, go_sem]) rfl ⟨_, rfl, rfl, bel1 _ _ _⟩
  | n l r =>
    obtain ⟨b, pl, pr, rfl, hc, hl, hr⟩ := h
    have h0 : w.cell? ⟨b, 2, none⟩ = some (.bool r.isO) := blk_cell hc 2
    have h1 : w.cell? ⟨b, 3, none⟩ = some (.pointer pr) := blk_cell hc 3
    have hb := blk_lt hc
    have hn1 : w.heap.size ≠ b := by omega
    have hn2 : w.heap.size + 1 ≠ b := by omega
    have HL := Lib.hid hr
    clear hl hr hc
    go_enter Try.func33, Try.ntmps33
    go_wp2_with fail
    exact bodyPost_ret (v := .agg #[.bool r.isO, .pointer pr]) (by simp [results, Try.results33, go_sem]) rfl ⟨_, rfl, HL.out.below (bel1 _ _ _), bel1 _ _ _⟩
theorem asz (w : World) (o : Obj) : (w.alloc o).heap.size = w.heap.size + 1 := by simp
theorem pair_zz {a b : T} (h : a.isZ = true) (k : b.isZ = true) : T.pair a b = .z := by simp [T.pair, h, k]
theorem pair_oo {a b : T} (h : a.isO = true) (k : b.isO = true) : T.pair a b = .o := by
  cases a <;> cases b <;> simp_all [T.pair, T.isZ, T.isO]
theorem pair_n {a b : T} (h : ¬ (a.isZ = true ∧ b.isZ = true)) (k : ¬ (a.isO = true ∧ b.isO = true)) : T.pair a b = .n a b := by
  simp [T.pair]
  rw [if_neg h, if_neg k]
theorem bset {B : Nat} {a w : World} {R : Nat} (h : Below B a w) (hR : B ≤ R) (o : Nat) (u : Value) : Below B a (w.setCell ⟨R, o, none⟩ u) := h.setCell hR u
theorem Bx.ne {w : World} {b : Nat} {a : Bool} {p : Option Addr} (h : Bx w b a p) : w.heap.size ≠ b := by have := blk_lt h; omega
theorem Bx.lt {w : World} {b : Nat} {a : Bool} {p : Option Addr} (h : Bx w b a p) : b < w.heap.size := blk_lt h
theorem ssz (w : World) (a : Addr) (v : Value) : (w.setCell a v).heap.size = w.heap.size := by simp [World.setCell]
theorem new_at {w : World} {n : Nat} (h : w.heap.size = n) (o : Obj) : (w.alloc o).heap[n]? = some o := by subst h; exact heap_alloc_new w o
theorem isOne_is {t : T} {v : Value} {a : Bool} (w : World) (h : IDV w t v) (ha : t.isO = a) : Calls Try.prog 25 #[v] w fun e w' => e = .returned (.bool a) ∧ Below w.heap.size w w' := by
  subst ha
  exact isOne_any w h
theorem IDV.shape' {w : World} {t : T} {v : Value} (h : IDV w t v) : ∃ a p, v = .agg #[.bool a, .pointer p] ∧ t.isO = a := by
  obtain ⟨p, rfl⟩ := h.shape
  exact ⟨_, _, rfl, rfl⟩
theorem isO_of_Z {t : T} (h : t.isZ = true) : t.isO = false := by cases t <;> simp_all [T.isZ, T.isO]
theorem bdrew {B : Nat} {a w : World} (h : Below B a w) : Below B a w.drew := ⟨h.os, h.tape, h.output, h.size, h.block⟩
theorem bdrewN {B : Nat} {a w : World} (h : Below B a w) (n : Nat) : Below B a (w.drewN n) := ⟨h.os, h.tape, h.output, h.size, h.block⟩
theorem blk_set {w : World} {b : Nat} {cs : Array Value} {t : TypeId} (h : w.heap[b]? = some (.cells cs t (0, 0))) (o : Nat) (v : Value) :
    (w.setCell ⟨b, o, none⟩ v).heap[b]? = some (.cells (cs.setIfInBounds o v) t (0, 0)) := by
  simp only [World.setCell, Array.getElem?_modify, if_true, h, Option.map_some]
  simp
theorem Bx.put {w : World} {C : Nat} {a : Bool} {p : Option Addr} (h : Bx w C a p) (x : Bool) (y : Option Addr) : Bx ((w.setCell ⟨C, 0, none⟩ (.bool x)).setCell ⟨C, 1, none⟩ (.pointer y)) C x y := by
  have h1 := blk_set h 0 (.bool x)
  have h2 := blk_set h1 1 (.pointer y)
  exact h2
theorem Kp.put {w : World} {C : Nat} {a : Bool} {p : Option Addr} (h : Bx w C a p) (x : Bool) (y : Option Addr) : Kp w ((w.setCell ⟨C, 0, none⟩ (.bool x)).setCell ⟨C, 1, none⟩ (.pointer y)) := fun b cs hb => by
  have hne : b ≠ C := by
    rintro rfl
    have := hb.symm.trans h
    simp at this
  exact (Below.heap_setCell _ _ _ _ hne).trans ((Below.heap_setCell _ _ _ _ hne).trans hb)
theorem bput {B : Nat} {a w : World} {R : Nat} (h : Below B a w) (hR : B ≤ R) (x : Bool) (y : Option Addr) : Below B a ((w.setCell ⟨R, 0, none⟩ (.bool x)).setCell ⟨R, 1, none⟩ (.pointer y)) := bset (bset h hR _ _) hR _ _
theorem Bx.far {w : World} {C D : Nat} {a : Bool} {p : Option Addr} (h : Bx w D a p) (hne : D ≠ C) (x : Bool) (y : Option Addr) : Bx ((w.setCell ⟨C, 0, none⟩ (.bool x)).setCell ⟨C, 1, none⟩ (.pointer y)) D a p :=
  (Below.heap_setCell _ _ _ _ hne).trans ((Below.heap_setCell _ _ _ _ hne).trans h)
/-- A pair's block. -/
def Nd (w : World) (b : Nat) (x : Bool) (px : Option Addr) (y : Bool) (py : Option Addr) : Prop := w.heap[b]? = some (.cells #[.bool x, .pointer px, .bool y, .pointer py] 85 (0, 0))
theorem Nd.below {w w' : World} {b : Nat} {x y : Bool} {px py : Option Addr} (h : Nd w b x px y py) (hb : Below w.heap.size w w') : Nd w' b x px y py := (hb.block b (blk_lt h)).trans h
theorem Nd.kp {w w' : World} {b : Nat} {x y : Bool} {px py : Option Addr} (h : Nd w b x px y py) (hb : Kp w w') : Nd w' b x px y py := hb b _ h
theorem Nd.lt {w : World} {b : Nat} {x y : Bool} {px py : Option Addr} (h : Nd w b x px y py) : b < w.heap.size := blk_lt h
theorem Nd.c0 {w : World} {b : Nat} {x y : Bool} {px py : Option Addr} (h : Nd w b x px y py) : w.cell? ⟨b, 0, none⟩ = some (.bool x) := blk_cell h 0
theorem Nd.c1 {w : World} {b : Nat} {x y : Bool} {px py : Option Addr} (h : Nd w b x px y py) : w.cell? ⟨b, 1, none⟩ = some (.pointer px) := blk_cell h 1
theorem Nd.c2 {w : World} {b : Nat} {x y : Bool} {px py : Option Addr} (h : Nd w b x px y py) : w.cell? ⟨b, 2, none⟩ = some (.bool y) := blk_cell h 2
theorem Nd.c3 {w : World} {b : Nat} {x y : Bool} {px py : Option Addr} (h : Nd w b x px y py) : w.cell? ⟨b, 3, none⟩ = some (.pointer py) := blk_cell h 3
theorem IDV.node {w : World} {l r : T} {v : Value} (h : IDV w (.n l r) v) : ∃ b x px y py, v = .agg #[.bool false, .pointer (some ⟨b, 0, none⟩)] ∧ Nd w b x px y py ∧ IDV w l (.agg #[.bool x, .pointer px]) ∧ IDV w r (.agg #[.bool y, .pointer py]) ∧ l.isO = x ∧ r.isO = y := by
  obtain ⟨b, pl, pr, rfl, hc, hl, hr⟩ := h
  exact ⟨b, _, pl, _, pr, rfl, hc, hl, hr, rfl, rfl⟩
end Go.Proofs.Ytigkjmfkpmehlaa
