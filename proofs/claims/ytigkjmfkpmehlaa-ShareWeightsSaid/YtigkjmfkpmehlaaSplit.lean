/- ID.split. (Printed by wip/ids/split.py.) -/
import Derived.Test.YtigkjmfkpmehlaaSums
namespace Go.Proofs.Ytigkjmfkpmehlaa
open Go.RowKit

def T.split : T → T × T
  | .z => (.z, .z)
  | .o => (T.pair .o .z, T.pair .z .o)
  | .n l r =>
    if l.isZ = true then (T.pair l r.split.1, T.pair l r.split.2)
    else if r.isZ = true then (T.pair l.split.1 r, T.pair l.split.2 r)
    else (T.pair l .z, T.pair .z r)
theorem new_of {B n : Nat} {a w : World} (_ : Below B a w) (h : w.heap.size = n) : Bx (w.alloc (.cells #[.bool false, .pointer none] 31)) n false none := by
  subst h
  exact Bx.new w false none
theorem Bx.drew {w : World} {b : Nat} {a : Bool} {p : Option Addr} (h : Bx w b a p) : Bx w.drew b a p := h
theorem wdrew (w : World) : w.drew.heap.size = w.heap.size := rfl
/-- Behind the first statement: the two halves, in boxes. -/
def SX (w : World) (B D C : Nat) (a : Bool) (p : Option Addr) (l r : T) (s4 s5 : Value) (wx : World) : Prop :=
  ∃ (L R : Nat) (x : Bool) (px : Option Addr) (y : Bool) (py : Option Addr), s4 = .pointer (some ⟨L, 0, none⟩) ∧ s5 = .pointer (some ⟨R, 0, none⟩) ∧ Below w.heap.size w wx ∧ Bx wx B a p ∧ Bx wx D false none ∧ Bx wx C false none ∧ Bx wx L x px ∧ Bx wx R y py ∧
    IDV wx l (.agg #[.bool x, .pointer px]) ∧ IDV wx r (.agg #[.bool y, .pointer py]) ∧ l.isO = x ∧ r.isO = y ∧ C < L ∧ C < R ∧ L ≠ R
theorem SX.mk0 {w W : World} {B D C L R : Nat} {a x y : Bool} {p px py : Option Addr} {l r : T} (hb : Below w.heap.size w W) (b1 : Bx W B a p) (b2 : Bx W D false none) (b3 : Bx W C false none) (bl : Bx W L x px) (br : Bx W R y py)
    (hl : IDV W l (.agg #[.bool x, .pointer px])) (hr : IDV W r (.agg #[.bool y, .pointer py])) (hx : l.isO = x) (hy : r.isO = y) (h1 : C < L) (h2 : C < R) (h3 : L ≠ R) :
    SX w B D C a p l r (.pointer (some ⟨L, 0, none⟩)) (.pointer (some ⟨R, 0, none⟩)) W :=
  ⟨L, R, x, px, y, py, rfl, rfl, hb, b1, b2, b3, bl, br, hl, hr, hx, hy, h1, h2, h3⟩
theorem Bx.new1 (w : World) (a : Bool) (p : Option Addr) (o : Obj) : Bx ((w.alloc o).alloc (.cells #[.bool a, .pointer p] 31)) (w.heap.size + 1) a p := by
  have h := Bx.new (w.alloc o) a p
  simp only [asz] at h
  exact h
/-- What holds of the world behind the two calls. -/
structure ST (w W : World) (B D C : Nat) (a : Bool) (p : Option Addr) (l r : T) (x : Bool) (px : Option Addr) (y : Bool) (py : Option Addr) : Prop where
  hb : Below w.heap.size w W
  b1 : Bx W B a p
  b2 : Bx W D false none
  b3 : Bx W C false none
  hl : IDV W l (.agg #[.bool x, .pointer px])
  hr : IDV W r (.agg #[.bool y, .pointer py])
  hx : l.isO = x
  hy : r.isO = y
  lt : w.heap.size < C ∧ B < C ∧ D < C
theorem ST.al {w W : World} {B D C : Nat} {a : Bool} {p : Option Addr} {l r : T} {x : Bool} {px : Option Addr} {y : Bool} {py : Option Addr} (h : ST w W B D C a p l r x px y py) (o : Obj) : ST w (W.alloc o) B D C a p l r x px y py :=
  ⟨h.hb.alloc h.hb.size o, h.b1.alloc o, h.b2.alloc o, h.b3.alloc o, h.hl.alloc o, h.hr.alloc o, h.hx, h.hy, h.lt⟩
theorem ST.put {w W : World} {B D C : Nat} {a : Bool} {p : Option Addr} {l r : T} {x : Bool} {px : Option Addr} {y : Bool} {py : Option Addr} (h : ST w W B D C a p l r x px y py) {X : Nat} {c : Bool} {d : Option Addr} (bx : Bx W X c d) (hX : C < X) (e : Bool) (f : Option Addr) :
    ST w ((W.setCell ⟨X, 0, none⟩ (.bool e)).setCell ⟨X, 1, none⟩ (.pointer f)) B D C a p l r x px y py := by
  obtain ⟨hb, b1, b2, b3, hl, hr, hx, hy, h1, h2, h3⟩ := h
  have k1 := Kp.put bx e f
  exact ⟨bput hb (by omega) e f, b1.far (by omega) e f, b2.far (by omega) e f, b3.far (by omega) e f, hl.kp k1, hr.kp k1, hx, hy, h1, h2, h3⟩
theorem ST.fin {w W : World} {B D C L R : Nat} {a : Bool} {p : Option Addr} {l r : T} {x : Bool} {px : Option Addr} {y : Bool} {py : Option Addr} (h : ST w W B D C a p l r x px y py) (bl : Bx W L x px) (br : Bx W R y py) (h1 : C < L) (h2 : C < R) (h3 : L ≠ R) :
    SX w B D C a p l r (.pointer (some ⟨L, 0, none⟩)) (.pointer (some ⟨R, 0, none⟩)) W := SX.mk0 h.hb h.b1 h.b2 h.b3 bl br h.hl h.hr h.hx h.hy h1 h2 h3
theorem ST.f1 {w W : World} {B D C : Nat} {a : Bool} {p : Option Addr} {l r : T} {x : Bool} {px : Option Addr} {y : Bool} {py : Option Addr} (h : ST w W B D C a p l r x px y py) :
    SX w B D C a p l r (.pointer (some ⟨W.heap.size, 0, none⟩)) (.pointer (some ⟨W.heap.size + 1, 0, none⟩)) ((W.alloc (.cells #[.bool x, .pointer px] 31)).alloc (.cells #[.bool y, .pointer py] 31)) :=
  ((h.al _).al _).fin ((Bx.new W x px).alloc _) (Bx.new1 W y py _) (by have := h.b3.lt; omega) (by have := h.b3.lt; omega) (by omega)
theorem ST.f2 {w W : World} {B D C : Nat} {a : Bool} {p : Option Addr} {l r : T} {x : Bool} {px : Option Addr} {y : Bool} {py : Option Addr} (h : ST w W B D C a p l r x px y py) :
    SX w B D C a p l r (.pointer (some ⟨W.heap.size + 1, 0, none⟩)) (.pointer (some ⟨W.heap.size, 0, none⟩)) ((W.alloc (.cells #[.bool y, .pointer py] 31)).alloc (.cells #[.bool x, .pointer px] 31)) :=
  ((h.al _).al _).fin (Bx.new1 W x px _) ((Bx.new W y py).alloc _) (by have := h.b3.lt; omega) (by have := h.b3.lt; omega) (by omega)
theorem ST.f3 {w W : World} {B D C : Nat} {a : Bool} {p : Option Addr} {l r : T} {x : Bool} {px : Option Addr} {y : Bool} {py : Option Addr} (h : ST w W B D C a p l r x px y py) {X : Nat} {c : Bool} {d : Option Addr} (bx : Bx W X c d) (hX : C < X) :
    SX w B D C a p l r (.pointer (some ⟨X, 0, none⟩)) (.pointer (some ⟨W.heap.size, 0, none⟩)) (((W.setCell ⟨X, 0, none⟩ (.bool x)).setCell ⟨X, 1, none⟩ (.pointer px)).alloc (.cells #[.bool y, .pointer py] 31)) := by
  have h4 := Bx.new ((W.setCell ⟨X, 0, none⟩ (.bool x)).setCell ⟨X, 1, none⟩ (.pointer px)) y py
  simp only [ssz] at h4
  exact ((h.put bx hX x px).al _).fin ((bx.put x px).alloc _) h4 hX (by have := h.b3.lt; omega) (by have := bx.lt; omega)
theorem ST.f4 {w W : World} {B D C : Nat} {a : Bool} {p : Option Addr} {l r : T} {x : Bool} {px : Option Addr} {y : Bool} {py : Option Addr} (h : ST w W B D C a p l r x px y py) {X : Nat} {c : Bool} {d : Option Addr} (bx : Bx W X c d) (hX : C < X) :
    SX w B D C a p l r (.pointer (some ⟨W.heap.size, 0, none⟩)) (.pointer (some ⟨X, 0, none⟩)) (((W.setCell ⟨X, 0, none⟩ (.bool y)).setCell ⟨X, 1, none⟩ (.pointer py)).alloc (.cells #[.bool x, .pointer px] 31)) := by
  have h4 := Bx.new ((W.setCell ⟨X, 0, none⟩ (.bool y)).setCell ⟨X, 1, none⟩ (.pointer py)) x px
  simp only [ssz] at h4
  exact ((h.put bx hX y py).al _).fin h4 ((bx.put y py).alloc _) (by have := h.b3.lt; omega) hX (by have := bx.lt; omega)
theorem ST.f5 {w W : World} {B D C : Nat} {a : Bool} {p : Option Addr} {l r : T} {x : Bool} {px : Option Addr} {y : Bool} {py : Option Addr} (h : ST w W B D C a p l r x px y py) {L R : Nat} {c c' : Bool} {d d' : Option Addr} (bl : Bx W L c d) (br : Bx W R c' d') (h1 : C < L) (h2 : C < R) (h3 : L ≠ R) :
    SX w B D C a p l r (.pointer (some ⟨L, 0, none⟩)) (.pointer (some ⟨R, 0, none⟩)) ((((W.setCell ⟨L, 0, none⟩ (.bool x)).setCell ⟨L, 1, none⟩ (.pointer px)).setCell ⟨R, 0, none⟩ (.bool y)).setCell ⟨R, 1, none⟩ (.pointer py)) := by
  have br' := br.far (Ne.symm h3) x px
  exact ((h.put bl h1 x px).put br' h2 y py).fin ((bl.put x px).far h3 y py) (br'.put y py) h1 h2 h3
theorem IDV.zero (w : World) : IDV w .z (Value.agg #[Value.bool false, Value.pointer none]) := rfl
def SplitOk (t : T) : Prop := ∀ (v : Value) (w : World), IDV w t v → Calls Try.prog 55 #[v] w fun e w' => ∃ v1 v2, e = .returned (.tuple #[v1, v2]) ∧ IDV w' t.split.1 v1 ∧ IDV w' t.split.2 v2 ∧ Below w.heap.size w w'
theorem IDV.drew {w : World} {t : T} {v : Value} (h : IDV w t v) : IDV w.drew t v := IDV.kp (w := w) (w' := w.drew) (fun _ _ h => h) h
theorem put2 {w W : World} {D C : Nat} {c c' x y : Bool} {d d' px py : Option Addr} {t1 t2 : T} (hb : Below w.heap.size w W) (b2 : Bx W D c d) (b3 : Bx W C c' d') (hD : w.heap.size ≤ D) (hC : w.heap.size ≤ C) (hne : D ≠ C)
    (h1 : IDV W t1 (.agg #[.bool x, .pointer px])) (h2 : IDV W t2 (.agg #[.bool y, .pointer py])) :
    IDV ((((W.setCell ⟨D, 0, none⟩ (.bool x)).setCell ⟨D, 1, none⟩ (.pointer px)).setCell ⟨C, 0, none⟩ (.bool y)).setCell ⟨C, 1, none⟩ (.pointer py)) t1 (.agg #[.bool x, .pointer px]) ∧
    IDV ((((W.setCell ⟨D, 0, none⟩ (.bool x)).setCell ⟨D, 1, none⟩ (.pointer px)).setCell ⟨C, 0, none⟩ (.bool y)).setCell ⟨C, 1, none⟩ (.pointer py)) t2 (.agg #[.bool y, .pointer py]) ∧
    Below w.heap.size w ((((W.setCell ⟨D, 0, none⟩ (.bool x)).setCell ⟨D, 1, none⟩ (.pointer px)).setCell ⟨C, 0, none⟩ (.bool y)).setCell ⟨C, 1, none⟩ (.pointer py)) := by
  have k1 := Kp.put b2 x px
  have b3' := b3.far (Ne.symm hne) x px
  have k2 := Kp.put b3' y py
  exact ⟨(h1.kp k1).kp k2, (h2.kp k1).kp k2, bput (bput hb hD x px) hC y py⟩

set_option maxHeartbeats 6400000 in
theorem split_step {t : T} (ih : ∀ l r, t = .n l r → SplitOk l ∧ SplitOk r) {v : Value} {w : World} (h : IDV w t v) : Calls Try.prog 55 #[v] w fun e w' => ∃ v1 v2, e = .returned (.tuple #[v1, v2]) ∧ IDV w' t.split.1 v1 ∧ IDV w' t.split.2 v2 ∧ Below w.heap.size w w' := by
  obtain ⟨a, p, rfl, ho⟩ := h.shape'
  have HV := Lib.hid h
  clear h
  have b1 := ((Bx.new w a p).alloc (.cells #[.bool false, .pointer none] 31)).alloc (.cells #[.bool false, .pointer none] 31)
  have b2 := (Bx.new (w.alloc (.cells #[.bool a, .pointer p] 31)) false none).alloc (.cells #[.bool false, .pointer none] 31)
  have b3 := Bx.new ((w.alloc (.cells #[.bool a, .pointer p] 31)).alloc (.cells #[.bool false, .pointer none] 31)) false none
  have hb := ((bel0 w (.cells #[.bool a, .pointer p] 31)).alloc (by simp only [asz]; omega) (.cells #[.bool false, .pointer none] 31)).alloc (by simp only [asz]; omega) (.cells #[.bool false, .pointer none] 31)
  simp only [asz] at b2 b3
  go_enter Try.func55, Try.ntmps55
  go_wp2_with fail
  generalize ((w.alloc (.cells #[.bool a, .pointer p] 31)).alloc (.cells #[.bool false, .pointer none] 31)).alloc (.cells #[.bool false, .pointer none] 31) = w3 at *
  obtain ⟨B, hB⟩ : ∃ B, w.heap.size = B := ⟨_, rfl⟩
  rw [hB] at b1 b2 b3 ⊢
  obtain ⟨C, hC⟩ : ∃ C, B + 1 + 1 = C := ⟨_, rfl⟩
  rw [hC] at b3 ⊢
  obtain ⟨D, hD⟩ : ∃ D, B + 1 = D := ⟨_, rfl⟩
  rw [hD] at b2 ⊢
  have c10 := b1.c0
  have c11 := b1.c1
  have f10 := b1.f0
  have f11 := b1.f1
  have n1 := b1.ne
  have l1 := b1.lt
  have c20 := b2.c0
  have c21 := b2.c1
  have f20 := b2.f0
  have f21 := b2.f1
  have n2 := b2.ne
  have l2 := b2.lt
  have c30 := b3.c0
  have c31 := b3.c1
  have f30 := b3.f0
  have f31 := b3.f1
  have n3 := b3.ne
  have l3 := b3.lt
  have hlt : w.heap.size < C ∧ B < C ∧ D < C := by omega
  go_cut [4, 5] (fun s4 s5 wx => SX w B D C a p t.left t.right s4 s5 wx)
  case first =>
    have hb0 := hb
    have b10 := b1
    have b20 := b2
    have b30 := b3
    have hb := bdrew hb
    have b1 : Bx w3.drew B a p := b1
    have b2 : Bx w3.drew D false none := b2
    have b3 : Bx w3.drew C false none := b3
    have m0 : w3.heap.size ≠ B := b10.ne
    have m1 : w3.heap.size + 1 ≠ B := by have q1 := b10.lt; omega
    go_region_held3 (fun w' => w'.cell? ⟨B, 0, none⟩ = some (.bool a) ∧ w'.cell? ⟨B, 1, none⟩ = some (.pointer p)) (with_reducible first
    | exact ⟨b1.c0, b1.c1⟩
    | (refine (fun h => ⟨Bx.c0 h, Bx.c1 h⟩ : Bx _ B a p → _) ?_
       repeat (first | exact b1 | exact b10 | refine Bx.drew ?_ | refine Bx.alloc ?_ _ | refine Bx.far ?_ (by first | assumption | exact Ne.symm (by assumption) | (intro hh; (try simp only [asz, ssz] at hh); omega)) _ _)))
      (first
        | (go_at_call 32; first
      | (with_reducible refine Calls.mono (left_any _ (HV.out.below hb)) ?_; rintro e wn ⟨v, rfl, hv, hk⟩; obtain ⟨oA, qA, rfl, hoA⟩ := hv.shape'; have HA := Lib.hid hv; clear hv; have hb := hb.trans (hk.mono hb.size); have b1 := b1.below hk; have b2 := b2.below hk; have b3 := b3.below hk; (try have bx1 := bx1.below hk); (try have bx2 := bx2.below hk); (try have by1 := by1.below hk); (try have by2 := by2.below hk); clear hk; have l1 := b1.lt; have l3 := b3.lt; have m0 := b1.ne; have m1 : wn.heap.size + 1 ≠ B := (by omega); (try (have cx10 := bx1.c0; have cx11 := bx1.c1; have fx10 := bx1.f0; have fx11 := bx1.f1; have lx1 := bx1.lt; have nx1 := bx1.ne)); (try (have cx20 := bx2.c0; have cx21 := bx2.c1; have fx20 := bx2.f0; have fx21 := bx2.f1; have lx2 := bx2.lt; have nx2 := bx2.ne)); (try (have cy10 := by1.c0; have cy11 := by1.c1; have fy10 := by1.f0; have fy11 := by1.f1; have ly1 := by1.lt; have ny1 := by1.ne)); (try (have cy20 := by2.c0; have cy21 := by2.c1; have fy20 := by2.f0; have fy21 := by2.f1; have ly2 := by2.lt; have ny2 := by2.ne)))
      | (have bx1 := Bx.drew (new_of (n := w3.heap.size) hb0 rfl); have ex1 : w3.heap.size ≠ B := (by have q1 := b10.lt; (try simp only [asz] at q1 ⊢); omega); have h00 := hb0; have hb0 := hb0.alloc hb0.size (.cells #[.bool false, .pointer none] 31); have hb := bdrew hb0; have b10 := b10.alloc (.cells #[.bool false, .pointer none] 31); have b20 := b20.alloc (.cells #[.bool false, .pointer none] 31); have b30 := b30.alloc (.cells #[.bool false, .pointer none] 31); have b1 := b10.drew; have b2 := b20.drew; have b3 := b30.drew; with_reducible refine Calls.mono (left_any _ (HV.out.below hb)) ?_; rintro e wn ⟨v, rfl, hv, hk⟩; obtain ⟨oA, qA, rfl, hoA⟩ := hv.shape'; have HA := Lib.hid hv; clear hv; have hb := hb.trans (hk.mono hb.size); have b1 := b1.below hk; have b2 := b2.below hk; have b3 := b3.below hk; (try have bx1 := bx1.below hk); (try have bx2 := bx2.below hk); (try have by1 := by1.below hk); (try have by2 := by2.below hk); clear hk; have l1 := b1.lt; have l3 := b3.lt; have m0 := b1.ne; have m1 : wn.heap.size + 1 ≠ B := (by omega); (try (have cx10 := bx1.c0; have cx11 := bx1.c1; have fx10 := bx1.f0; have fx11 := bx1.f1; have lx1 := bx1.lt; have nx1 := bx1.ne)); (try (have cx20 := bx2.c0; have cx21 := bx2.c1; have fx20 := bx2.f0; have fx21 := bx2.f1; have lx2 := bx2.lt; have nx2 := bx2.ne)); (try (have cy10 := by1.c0; have cy11 := by1.c1; have fy10 := by1.f0; have fy11 := by1.f1; have ly1 := by1.lt; have ny1 := by1.ne)); (try (have cy20 := by2.c0; have cy21 := by2.c1; have fy20 := by2.f0; have fy21 := by2.f1; have ly2 := by2.lt; have ny2 := by2.ne)))
      | (have bx1 := Bx.drew (new_of (n := w3.heap.size) hb0 rfl); have ex1 : w3.heap.size ≠ B := (by have q1 := b10.lt; (try simp only [asz] at q1 ⊢); omega); have h00 := hb0; have hb0 := hb0.alloc hb0.size (.cells #[.bool false, .pointer none] 31); have hb := bdrew hb0; have b10 := b10.alloc (.cells #[.bool false, .pointer none] 31); have b20 := b20.alloc (.cells #[.bool false, .pointer none] 31); have b30 := b30.alloc (.cells #[.bool false, .pointer none] 31); have b1 := b10.drew; have b2 := b20.drew; have b3 := b30.drew; have bx2 := Bx.drew (new_of (n := w3.heap.size + 1) hb0 (asz _ _)); have ex2 : w3.heap.size + 1 ≠ B := (by have q1 := b10.lt; (try simp only [asz] at q1 ⊢); omega); have z1 := new_of (n := w3.heap.size) h00 rfl; have bx1 := Bx.drew (z1.alloc (.cells #[.bool false, .pointer none] 31)); have h00 := hb0; have hb0 := hb0.alloc hb0.size (.cells #[.bool false, .pointer none] 31); have hb := bdrew hb0; have b10 := b10.alloc (.cells #[.bool false, .pointer none] 31); have b20 := b20.alloc (.cells #[.bool false, .pointer none] 31); have b30 := b30.alloc (.cells #[.bool false, .pointer none] 31); have b1 := b10.drew; have b2 := b20.drew; have b3 := b30.drew; with_reducible refine Calls.mono (left_any _ (HV.out.below hb)) ?_; rintro e wn ⟨v, rfl, hv, hk⟩; obtain ⟨oA, qA, rfl, hoA⟩ := hv.shape'; have HA := Lib.hid hv; clear hv; have hb := hb.trans (hk.mono hb.size); have b1 := b1.below hk; have b2 := b2.below hk; have b3 := b3.below hk; (try have bx1 := bx1.below hk); (try have bx2 := bx2.below hk); (try have by1 := by1.below hk); (try have by2 := by2.below hk); clear hk; have l1 := b1.lt; have l3 := b3.lt; have m0 := b1.ne; have m1 : wn.heap.size + 1 ≠ B := (by omega); (try (have cx10 := bx1.c0; have cx11 := bx1.c1; have fx10 := bx1.f0; have fx11 := bx1.f1; have lx1 := bx1.lt; have nx1 := bx1.ne)); (try (have cx20 := bx2.c0; have cx21 := bx2.c1; have fx20 := bx2.f0; have fx21 := bx2.f1; have lx2 := bx2.lt; have nx2 := bx2.ne)); (try (have cy10 := by1.c0; have cy11 := by1.c1; have fy10 := by1.f0; have fy11 := by1.f1; have ly1 := by1.lt; have ny1 := by1.ne)); (try (have cy20 := by2.c0; have cy21 := by2.c1; have fy20 := by2.f0; have fy21 := by2.f1; have ly2 := by2.lt; have ny2 := by2.ne))))
        | (go_at_call 33; first
      | (with_reducible refine Calls.mono (right_any _ (HV.out.below hb)) ?_; rintro e wn ⟨v, rfl, hv, hk⟩; obtain ⟨oB, qB, rfl, hoB⟩ := hv.shape'; have HB := Lib.hid hv; clear hv; have hb := hb.trans (hk.mono hb.size); have b1 := b1.below hk; have b2 := b2.below hk; have b3 := b3.below hk; (try have HA := Lib.hid (HA.out.below hk)); (try have bx1 := bx1.below hk); (try have bx2 := bx2.below hk); (try have by1 := by1.below hk); (try have by2 := by2.below hk); clear hk; have l1 := b1.lt; have l3 := b3.lt; have m0 := b1.ne; have m1 : wn.heap.size + 1 ≠ B := (by omega); (try (have cx10 := bx1.c0; have cx11 := bx1.c1; have fx10 := bx1.f0; have fx11 := bx1.f1; have lx1 := bx1.lt; have nx1 := bx1.ne)); (try (have cx20 := bx2.c0; have cx21 := bx2.c1; have fx20 := bx2.f0; have fx21 := bx2.f1; have lx2 := bx2.lt; have nx2 := bx2.ne)); (try (have cy10 := by1.c0; have cy11 := by1.c1; have fy10 := by1.f0; have fy11 := by1.f1; have ly1 := by1.lt; have ny1 := by1.ne)); (try (have cy20 := by2.c0; have cy21 := by2.c1; have fy20 := by2.f0; have fy21 := by2.f1; have ly2 := by2.lt; have ny2 := by2.ne)))
      | (have by1 := new_of (n := wn.heap.size) hb rfl; have ey1 : wn.heap.size ≠ B := (by have q1 := b1.lt; (try simp only [asz] at q1 ⊢); omega); have b1 := b1.alloc (.cells #[.bool false, .pointer none] 31); have b2 := b2.alloc (.cells #[.bool false, .pointer none] 31); have b3 := b3.alloc (.cells #[.bool false, .pointer none] 31); have HA := Lib.hid (HA.out.alloc (.cells #[.bool false, .pointer none] 31)); (try have bx1 := bx1.alloc (.cells #[.bool false, .pointer none] 31)); (try have bx2 := bx2.alloc (.cells #[.bool false, .pointer none] 31)); have hb := hb.alloc hb.size (.cells #[.bool false, .pointer none] 31); with_reducible refine Calls.mono (right_any _ (HV.out.below hb)) ?_; rintro e wn ⟨v, rfl, hv, hk⟩; obtain ⟨oB, qB, rfl, hoB⟩ := hv.shape'; have HB := Lib.hid hv; clear hv; have hb := hb.trans (hk.mono hb.size); have b1 := b1.below hk; have b2 := b2.below hk; have b3 := b3.below hk; (try have HA := Lib.hid (HA.out.below hk)); (try have bx1 := bx1.below hk); (try have bx2 := bx2.below hk); (try have by1 := by1.below hk); (try have by2 := by2.below hk); clear hk; have l1 := b1.lt; have l3 := b3.lt; have m0 := b1.ne; have m1 : wn.heap.size + 1 ≠ B := (by omega); (try (have cx10 := bx1.c0; have cx11 := bx1.c1; have fx10 := bx1.f0; have fx11 := bx1.f1; have lx1 := bx1.lt; have nx1 := bx1.ne)); (try (have cx20 := bx2.c0; have cx21 := bx2.c1; have fx20 := bx2.f0; have fx21 := bx2.f1; have lx2 := bx2.lt; have nx2 := bx2.ne)); (try (have cy10 := by1.c0; have cy11 := by1.c1; have fy10 := by1.f0; have fy11 := by1.f1; have ly1 := by1.lt; have ny1 := by1.ne)); (try (have cy20 := by2.c0; have cy21 := by2.c1; have fy20 := by2.f0; have fy21 := by2.f1; have ly2 := by2.lt; have ny2 := by2.ne)))
      | (have by1 := new_of (n := wn.heap.size) hb rfl; have ey1 : wn.heap.size ≠ B := (by have q1 := b1.lt; (try simp only [asz] at q1 ⊢); omega); have b1 := b1.alloc (.cells #[.bool false, .pointer none] 31); have b2 := b2.alloc (.cells #[.bool false, .pointer none] 31); have b3 := b3.alloc (.cells #[.bool false, .pointer none] 31); have HA := Lib.hid (HA.out.alloc (.cells #[.bool false, .pointer none] 31)); (try have bx1 := bx1.alloc (.cells #[.bool false, .pointer none] 31)); (try have bx2 := bx2.alloc (.cells #[.bool false, .pointer none] 31)); have hb := hb.alloc hb.size (.cells #[.bool false, .pointer none] 31); have by2 := new_of (n := wn.heap.size + 1) hb (asz _ _); have ey2 : wn.heap.size + 1 ≠ B := (by have q1 := b1.lt; (try simp only [asz] at q1 ⊢); omega); have b1 := b1.alloc (.cells #[.bool false, .pointer none] 31); have b2 := b2.alloc (.cells #[.bool false, .pointer none] 31); have b3 := b3.alloc (.cells #[.bool false, .pointer none] 31); have HA := Lib.hid (HA.out.alloc (.cells #[.bool false, .pointer none] 31)); (try have bx1 := bx1.alloc (.cells #[.bool false, .pointer none] 31)); (try have bx2 := bx2.alloc (.cells #[.bool false, .pointer none] 31)); have by1 := by1.alloc (.cells #[.bool false, .pointer none] 31); have hb := hb.alloc hb.size (.cells #[.bool false, .pointer none] 31); with_reducible refine Calls.mono (right_any _ (HV.out.below hb)) ?_; rintro e wn ⟨v, rfl, hv, hk⟩; obtain ⟨oB, qB, rfl, hoB⟩ := hv.shape'; have HB := Lib.hid hv; clear hv; have hb := hb.trans (hk.mono hb.size); have b1 := b1.below hk; have b2 := b2.below hk; have b3 := b3.below hk; (try have HA := Lib.hid (HA.out.below hk)); (try have bx1 := bx1.below hk); (try have bx2 := bx2.below hk); (try have by1 := by1.below hk); (try have by2 := by2.below hk); clear hk; have l1 := b1.lt; have l3 := b3.lt; have m0 := b1.ne; have m1 : wn.heap.size + 1 ≠ B := (by omega); (try (have cx10 := bx1.c0; have cx11 := bx1.c1; have fx10 := bx1.f0; have fx11 := bx1.f1; have lx1 := bx1.lt; have nx1 := bx1.ne)); (try (have cx20 := bx2.c0; have cx21 := bx2.c1; have fx20 := bx2.f0; have fx21 := bx2.f1; have lx2 := bx2.lt; have nx2 := bx2.ne)); (try (have cy10 := by1.c0; have cy11 := by1.c1; have fy10 := by1.f0; have fy11 := by1.f1; have ly1 := by1.lt; have ny1 := by1.ne)); (try (have cy20 := by2.c0; have cy21 := by2.c1; have fy20 := by2.f0; have fy21 := by2.f1; have ly2 := by2.lt; have ny2 := by2.ne)))))
    all_goals
      go_wp2_with fail
      go_meet
      have st : ST w wn B D C a p t.left t.right oA qA oB qB := ⟨hb, b1, b2, b3, HA.out, HB.out, hoA, hoB, hlt⟩
      with_reducible first
        | exact st.f1
        | exact st.f2
        | exact st.f3 bx1 (by omega)
        | exact st.f3 by1 (by omega)
        | exact st.f4 bx1 (by omega)
        | exact st.f4 by1 (by omega)
        | exact st.f5 bx1 bx2 (by omega) (by omega) (by omega)
        | exact st.f5 bx2 bx1 (by omega) (by omega) (by omega)
        | exact st.f5 bx1 by1 (by omega) (by omega) (by omega)
        | exact st.f5 by1 bx1 (by omega) (by omega) (by omega)
        | exact st.f5 by1 by2 (by omega) (by omega) (by omega)
        | exact st.f5 by2 by1 (by omega) (by omega) (by omega)
  case rest =>
    obtain ⟨L, R, x, px, y, py, rfl, rfl, hb, b1, b2, b3, b4, b5, hl, hr, hx, hy, lt4, lt5, hLR⟩ := hcut
    obtain ⟨lt1, lt2, lt3⟩ := hlt
    have HV := Lib.hid (HV.out.below hb)
    have HL := Lib.hid hl
    have HR := Lib.hid hr
    clear hl hr
    have hDC : D ≠ C := by omega
    have hBD : B ≠ D := by omega
    have hBC : B ≠ C := by omega
    have l3 := b3.lt
    (try clear c10 c11); have c10 := b1.c0; have c11 := b1.c1; (try clear c40 c41); have c40 := b4.c0; have c41 := b4.c1; (try clear c50 c51); have c50 := b5.c0; have c51 := b5.c1
    cases t with
    | z =>
      obtain rfl : a = false := ho.symm
      have hz : T.isZ .z = true := rfl
      go_upto_region 3 with (first
        | (go_at_call_of 24 (Value.agg #[Value.bool false, Value.pointer p]); with_reducible refine Calls.mono (isZero_is _ HV.out hz) ?_; rintro e wn ⟨rfl, hk⟩; have hb := hb.trans (hk.mono hb.size); have b1 := b1.below hk; have b2 := b2.below hk; have b3 := b3.below hk; have b4 := b4.below hk; have b5 := b5.below hk; have l3 := b3.lt; (try have HV := Lib.hid (HV.out.below hk)); (try have HL := Lib.hid (HL.out.below hk)); (try have HR := Lib.hid (HR.out.below hk)); (try have HA := Lib.hid (HA.out.below hk)); (try have HB := Lib.hid (HB.out.below hk)); (try have HE := Lib.hid (HE.out.below hk)); (try have HF := Lib.hid (HF.out.below hk)); (try clear c10 c11); have c10 := b1.c0; have c11 := b1.c1; (try clear c40 c41); have c40 := b4.c0; have c41 := b4.c1; (try clear c50 c51); have c50 := b5.c0; have c51 := b5.c1; clear hk))
      have hb0 := hb
      have hb := bdrew hb
      have b10 := b1
      have b20 := b2
      have b30 := b3
      have b40 := b4
      have b50 := b5
      have HV0 := HV
      have b1 := b1.drew
      have b2 := b2.drew
      have b3 := b3.drew
      have b4 := b4.drew
      have b5 := b5.drew
      try have HV := Lib.hid HV.out.drew
      try have HL := Lib.hid HL.out.drew
      try have HR := Lib.hid HR.out.drew
      try have HA := Lib.hid HA.out.drew
      try have HB := Lib.hid HB.out.drew
      try have HE := Lib.hid HE.out.drew
      try have HF := Lib.hid HF.out.drew
      have c20 := b2.c0
      have c21 := b2.c1
      have f20 := b2.f0
      have f21 := b2.f1
      have c30 := b3.c0
      have c31 := b3.c1
      have f30 := b3.f0
      have f31 := b3.f1
      have c20 := b20.c0
      have c21 := b20.c1
      have f20 := b20.f0
      have f21 := b20.f1
      have c30 := b30.c0
      have c31 := b30.c1
      have f30 := b30.f0
      have f31 := b30.f1
      go_region_held3 (fun w' => w'.cell? ⟨B, 0, none⟩ = some (.bool false) ∧ w'.cell? ⟨B, 1, none⟩ = some (.pointer p)) (with_reducible (refine (fun h0 => ⟨Bx.c0 h0, Bx.c1 h0⟩ : Bx _ B false p → _) ?_; all_goals repeat (first | exact b1 | exact b10 | refine Bx.drew ?_ | refine Bx.far ?_ (by first | assumption | exact Ne.symm (by assumption) | omega) _ _))) (fail)
      all_goals
        go_wp2_with fail
        have fin := put2 hb0 b20 b30 (by omega) (by omega) hDC HV0.out HV0.out
        exact bodyPost_ret (v := .tuple #[.agg #[.bool false, .pointer p], .agg #[.bool false, .pointer p]]) (by simp [results, go_sem, *]) rfl ⟨_, _, rfl, fin.1.drew, fin.2.1.drew, bdrew fin.2.2⟩
    | o =>
      obtain rfl : a = true := ho.symm
      have hz : T.isZ .o = false := rfl
      have hq : T.isO .o = true := rfl
      go_upto_region 5 with (first
        | (go_at_call_of 24 (Value.agg #[Value.bool true, Value.pointer p]); with_reducible refine Calls.mono (isZero_is _ HV.out hz) ?_; rintro e wn ⟨rfl, hk⟩; have hb := hb.trans (hk.mono hb.size); have b1 := b1.below hk; have b2 := b2.below hk; have b3 := b3.below hk; have b4 := b4.below hk; have b5 := b5.below hk; have l3 := b3.lt; (try have HV := Lib.hid (HV.out.below hk)); (try have HL := Lib.hid (HL.out.below hk)); (try have HR := Lib.hid (HR.out.below hk)); (try have HA := Lib.hid (HA.out.below hk)); (try have HB := Lib.hid (HB.out.below hk)); (try have HE := Lib.hid (HE.out.below hk)); (try have HF := Lib.hid (HF.out.below hk)); (try clear c10 c11); have c10 := b1.c0; have c11 := b1.c1; (try clear c40 c41); have c40 := b4.c0; have c41 := b4.c1; (try clear c50 c51); have c50 := b5.c0; have c51 := b5.c1; clear hk)
        | (go_at_call_of 25 (Value.agg #[Value.bool true, Value.pointer p]); with_reducible refine Calls.mono (isOne_is _ HV.out hq) ?_; rintro e wn ⟨rfl, hk⟩; have hb := hb.trans (hk.mono hb.size); have b1 := b1.below hk; have b2 := b2.below hk; have b3 := b3.below hk; have b4 := b4.below hk; have b5 := b5.below hk; have l3 := b3.lt; (try have HV := Lib.hid (HV.out.below hk)); (try have HL := Lib.hid (HL.out.below hk)); (try have HR := Lib.hid (HR.out.below hk)); (try have HA := Lib.hid (HA.out.below hk)); (try have HB := Lib.hid (HB.out.below hk)); (try have HE := Lib.hid (HE.out.below hk)); (try have HF := Lib.hid (HF.out.below hk)); (try clear c10 c11); have c10 := b1.c0; have c11 := b1.c1; (try clear c40 c41); have c40 := b4.c0; have c41 := b4.c1; (try clear c50 c51); have c50 := b5.c0; have c51 := b5.c1; clear hk))
      have hb0 := hb
      have hb := bdrew hb
      have b10 := b1
      have b20 := b2
      have b30 := b3
      have b40 := b4
      have b50 := b5
      have HV0 := HV
      have b1 := b1.drew
      have b2 := b2.drew
      have b3 := b3.drew
      have b4 := b4.drew
      have b5 := b5.drew
      try have HV := Lib.hid HV.out.drew
      try have HL := Lib.hid HL.out.drew
      try have HR := Lib.hid HR.out.drew
      try have HA := Lib.hid HA.out.drew
      try have HB := Lib.hid HB.out.drew
      try have HE := Lib.hid HE.out.drew
      try have HF := Lib.hid HF.out.drew
      have c20 := b2.c0
      have c21 := b2.c1
      have f20 := b2.f0
      have f21 := b2.f1
      have c30 := b3.c0
      have c31 := b3.c1
      have f30 := b3.f0
      have f31 := b3.f1
      go_region_held3 (fun w' => w'.cell? ⟨B, 0, none⟩ = some (.bool true) ∧ w'.cell? ⟨B, 1, none⟩ = some (.pointer p)) (with_reducible (refine (fun h0 => ⟨Bx.c0 h0, Bx.c1 h0⟩ : Bx _ B true p → _) ?_; all_goals repeat (first | exact b1 | exact b10 | refine Bx.drew ?_ | refine Bx.far ?_ (by first | assumption | exact Ne.symm (by assumption) | omega) _ _)))
        (first
          | (go_at_call 21; refine Calls.mono (zero_any _) ?_; rintro e wn ⟨v, rfl, rfl, hk⟩; have hb := hb.trans (hk.mono hb.size); have b1 := b1.below hk; have b2 := b2.below hk; have b3 := b3.below hk; have b4 := b4.below hk; have b5 := b5.below hk; have l3 := b3.lt; (try have HV := Lib.hid (HV.out.below hk)); (try have HL := Lib.hid (HL.out.below hk)); (try have HR := Lib.hid (HR.out.below hk)); (try have HA := Lib.hid (HA.out.below hk)); (try have HB := Lib.hid (HB.out.below hk)); (try have HE := Lib.hid (HE.out.below hk)); (try have HF := Lib.hid (HF.out.below hk)); clear hk)
          | (go_at_call 57; with_reducible refine Calls.mono (pair_any _ HV.out (IDV.zero _)) ?_; rintro e wn ⟨v, rfl, hv, hk⟩; obtain ⟨oA, qA, rfl, hoA⟩ := hv.shape'; have HA := Lib.hid hv; clear hv; have hb := hb.trans (hk.mono hb.size); have b1 := b1.below hk; have b2 := b2.below hk; have b3 := b3.below hk; have b4 := b4.below hk; have b5 := b5.below hk; have l3 := b3.lt; (try have HV := Lib.hid (HV.out.below hk)); (try have HL := Lib.hid (HL.out.below hk)); (try have HR := Lib.hid (HR.out.below hk)); (try have HB := Lib.hid (HB.out.below hk)); (try have HE := Lib.hid (HE.out.below hk)); (try have HF := Lib.hid (HF.out.below hk)); have c20 := b2.c0; have c21 := b2.c1; have f20 := b2.f0; have f21 := b2.f1; have c30 := b3.c0; have c31 := b3.c1; have f30 := b3.f0; have f31 := b3.f1; clear hk)
          | (go_at_call 57; with_reducible refine Calls.mono (pair_any _ (IDV.zero _) HV.out) ?_; rintro e wn ⟨v, rfl, hv, hk⟩; obtain ⟨oB, qB, rfl, hoB⟩ := hv.shape'; have HB := Lib.hid hv; clear hv; have hb := hb.trans (hk.mono hb.size); have b1 := b1.below hk; have b2 := b2.below hk; have b3 := b3.below hk; have b4 := b4.below hk; have b5 := b5.below hk; have l3 := b3.lt; (try have HV := Lib.hid (HV.out.below hk)); (try have HL := Lib.hid (HL.out.below hk)); (try have HR := Lib.hid (HR.out.below hk)); (try have HA := Lib.hid (HA.out.below hk)); (try have HE := Lib.hid (HE.out.below hk)); (try have HF := Lib.hid (HF.out.below hk)); have c20 := b2.c0; have c21 := b2.c1; have f20 := b2.f0; have f21 := b2.f1; have c30 := b3.c0; have c31 := b3.c1; have f30 := b3.f0; have f31 := b3.f1; clear hk))
      have e1 : (T.split .o).1 = T.pair .o .z := rfl
      have e2 : (T.split .o).2 = T.pair .z .o := rfl
      have fin := put2 hb b2 b3 (by omega) (by omega) hDC HA.out HB.out
      go_wp2_with fail
      exact bodyPost_ret (v := .tuple #[.agg #[.bool oA, .pointer qA], .agg #[.bool oB, .pointer qB]]) (by simp [results, go_sem, *]) rfl ⟨_, _, rfl, (e1 ▸ fin.1), (e2 ▸ fin.2.1), fin.2.2⟩
    | n l r =>
      obtain ⟨il, ir⟩ := ih l r rfl
      have IL := Lib.hid il
      have IR := Lib.hid ir
      have HL : Hid (IDV wc l (Value.agg #[Value.bool x, Value.pointer px])) := HL
      have HR : Hid (IDV wc r (Value.agg #[Value.bool y, Value.pointer py])) := HR
      clear ih il ir
      obtain rfl : a = false := ho.symm
      have hz : T.isZ (.n l r) = false := rfl
      have hq : T.isO (.n l r) = false := rfl
      cases hzl : l.isZ with
      | true =>
        go_upto_region 8 with (first
          | (go_at_call_of 24 (Value.agg #[Value.bool false, Value.pointer p]); with_reducible refine Calls.mono (isZero_is _ HV.out hz) ?_; rintro e wn ⟨rfl, hk⟩; have hb := hb.trans (hk.mono hb.size); have b1 := b1.below hk; have b2 := b2.below hk; have b3 := b3.below hk; have b4 := b4.below hk; have b5 := b5.below hk; have l3 := b3.lt; (try have HV := Lib.hid (HV.out.below hk)); (try have HL := Lib.hid (HL.out.below hk)); (try have HR := Lib.hid (HR.out.below hk)); (try have HA := Lib.hid (HA.out.below hk)); (try have HB := Lib.hid (HB.out.below hk)); (try have HE := Lib.hid (HE.out.below hk)); (try have HF := Lib.hid (HF.out.below hk)); (try clear c10 c11); have c10 := b1.c0; have c11 := b1.c1; (try clear c40 c41); have c40 := b4.c0; have c41 := b4.c1; (try clear c50 c51); have c50 := b5.c0; have c51 := b5.c1; clear hk)
          | (go_at_call_of 25 (Value.agg #[Value.bool false, Value.pointer p]); with_reducible refine Calls.mono (isOne_is _ HV.out hq) ?_; rintro e wn ⟨rfl, hk⟩; have hb := hb.trans (hk.mono hb.size); have b1 := b1.below hk; have b2 := b2.below hk; have b3 := b3.below hk; have b4 := b4.below hk; have b5 := b5.below hk; have l3 := b3.lt; (try have HV := Lib.hid (HV.out.below hk)); (try have HL := Lib.hid (HL.out.below hk)); (try have HR := Lib.hid (HR.out.below hk)); (try have HA := Lib.hid (HA.out.below hk)); (try have HB := Lib.hid (HB.out.below hk)); (try have HE := Lib.hid (HE.out.below hk)); (try have HF := Lib.hid (HF.out.below hk)); (try clear c10 c11); have c10 := b1.c0; have c11 := b1.c1; (try clear c40 c41); have c40 := b4.c0; have c41 := b4.c1; (try clear c50 c51); have c50 := b5.c0; have c51 := b5.c1; clear hk)
          | (go_at_call_of 24 (Value.agg #[Value.bool x, Value.pointer px]); with_reducible refine Calls.mono (isZero_is _ HL.out hzl) ?_; rintro e wn ⟨rfl, hk⟩; have hb := hb.trans (hk.mono hb.size); have b1 := b1.below hk; have b2 := b2.below hk; have b3 := b3.below hk; have b4 := b4.below hk; have b5 := b5.below hk; have l3 := b3.lt; (try have HV := Lib.hid (HV.out.below hk)); (try have HL := Lib.hid (HL.out.below hk)); (try have HR := Lib.hid (HR.out.below hk)); (try have HA := Lib.hid (HA.out.below hk)); (try have HB := Lib.hid (HB.out.below hk)); (try have HE := Lib.hid (HE.out.below hk)); (try have HF := Lib.hid (HF.out.below hk)); (try clear c10 c11); have c10 := b1.c0; have c11 := b1.c1; (try clear c40 c41); have c40 := b4.c0; have c41 := b4.c1; (try clear c50 c51); have c50 := b5.c0; have c51 := b5.c1; clear hk)
          | (go_at_call 55; refine Calls.mono (IR.out _ _ HR.out) ?_; rintro e wn ⟨v1, v2, rfl, hv1, hv2, hk⟩; obtain ⟨oE, qE, rfl, hoE⟩ := hv1.shape'; obtain ⟨oF, qF, rfl, hoF⟩ := hv2.shape'; have HE := Lib.hid hv1; have HF := Lib.hid hv2; clear hv1 hv2; have hb := hb.trans (hk.mono hb.size); have b1 := b1.below hk; have b2 := b2.below hk; have b3 := b3.below hk; have b4 := b4.below hk; have b5 := b5.below hk; have l3 := b3.lt; (try have HV := Lib.hid (HV.out.below hk)); (try have HL := Lib.hid (HL.out.below hk)); (try have HR := Lib.hid (HR.out.below hk)); (try have HA := Lib.hid (HA.out.below hk)); (try have HB := Lib.hid (HB.out.below hk)); (try clear c10 c11); have c10 := b1.c0; have c11 := b1.c1; (try clear c40 c41); have c40 := b4.c0; have c41 := b4.c1; (try clear c50 c51); have c50 := b5.c0; have c51 := b5.c1; clear hk))
        have b6 := (Bx.new wn oE qE).alloc (.cells #[.bool oF, .pointer qF] 31)
        have b7 := Bx.new1 wn oF qF (.cells #[.bool oE, .pointer qE] 31)
        have b1 := (b1.alloc (.cells #[.bool oE, .pointer qE] 31)).alloc (.cells #[.bool oF, .pointer qF] 31)
        have b2 := (b2.alloc (.cells #[.bool oE, .pointer qE] 31)).alloc (.cells #[.bool oF, .pointer qF] 31)
        have b3 := (b3.alloc (.cells #[.bool oE, .pointer qE] 31)).alloc (.cells #[.bool oF, .pointer qF] 31)
        have b4 := (b4.alloc (.cells #[.bool oE, .pointer qE] 31)).alloc (.cells #[.bool oF, .pointer qF] 31)
        have b5 := (b5.alloc (.cells #[.bool oE, .pointer qE] 31)).alloc (.cells #[.bool oF, .pointer qF] 31)
        have hb := (hb.alloc hb.size (.cells #[.bool oE, .pointer qE] 31)).alloc (by simp only [asz]; have := hb.size; omega) (.cells #[.bool oF, .pointer qF] 31)
        have HV := Lib.hid ((HV.out.alloc (.cells #[.bool oE, .pointer qE] 31)).alloc (.cells #[.bool oF, .pointer qF] 31))
        have HL := Lib.hid ((HL.out.alloc (.cells #[.bool oE, .pointer qE] 31)).alloc (.cells #[.bool oF, .pointer qF] 31))
        have HR := Lib.hid ((HR.out.alloc (.cells #[.bool oE, .pointer qE] 31)).alloc (.cells #[.bool oF, .pointer qF] 31))
        have HE := Lib.hid ((HE.out.alloc (.cells #[.bool oE, .pointer qE] 31)).alloc (.cells #[.bool oF, .pointer qF] 31))
        have HF := Lib.hid ((HF.out.alloc (.cells #[.bool oE, .pointer qE] 31)).alloc (.cells #[.bool oF, .pointer qF] 31))
        generalize (wn.alloc (.cells #[.bool oE, .pointer qE] 31)).alloc (.cells #[.bool oF, .pointer qF] 31) = w4 at *
        obtain ⟨E, hE⟩ : ∃ E, wn.heap.size = E := ⟨_, rfl⟩
        rw [hE] at b6 b7 l3 ⊢
        obtain ⟨F, hF⟩ : ∃ F, E + 1 = F := ⟨_, rfl⟩
        rw [hF] at b7 ⊢
        have hb0 := hb
        have hb := bdrew hb
        have b10 := b1
        have b20 := b2
        have b30 := b3
        have b40 := b4
        have b50 := b5
        have b60 := b6
        have b70 := b7
        have HV0 := HV
        have b1 := b1.drew
        have b2 := b2.drew
        have b3 := b3.drew
        have b4 := b4.drew
        have b5 := b5.drew
        have b6 := b6.drew
        have b7 := b7.drew
        try have HV := Lib.hid HV.out.drew
        try have HL := Lib.hid HL.out.drew
        try have HR := Lib.hid HR.out.drew
        try have HA := Lib.hid HA.out.drew
        try have HB := Lib.hid HB.out.drew
        try have HE := Lib.hid HE.out.drew
        try have HF := Lib.hid HF.out.drew
        have c20 := b2.c0
        have c21 := b2.c1
        have f20 := b2.f0
        have f21 := b2.f1
        have c30 := b3.c0
        have c31 := b3.c1
        have f30 := b3.f0
        have f31 := b3.f1
        go_region_held3 (fun w' => w'.cell? ⟨L, 0, none⟩ = some (.bool x) ∧ w'.cell? ⟨L, 1, none⟩ = some (.pointer px) ∧ w'.cell? ⟨E, 0, none⟩ = some (.bool oE) ∧ w'.cell? ⟨E, 1, none⟩ = some (.pointer qE) ∧ w'.cell? ⟨F, 0, none⟩ = some (.bool oF) ∧ w'.cell? ⟨F, 1, none⟩ = some (.pointer qF)) (with_reducible (refine (fun h0 h1 h2 => ⟨Bx.c0 h0, Bx.c1 h0, Bx.c0 h1, Bx.c1 h1, Bx.c0 h2, Bx.c1 h2⟩ : Bx _ L x px → Bx _ E oE qE → Bx _ F oF qF → _) ?_ ?_ ?_; all_goals repeat (first | exact b4 | exact b40 | exact b6 | exact b60 | exact b7 | exact b70 | refine Bx.drew ?_ | refine Bx.far ?_ (by first | assumption | exact Ne.symm (by assumption) | omega) _ _)))
          (first
            | (go_at_call 57; with_reducible refine Calls.mono (pair_any _ HL.out HE.out) ?_; rintro e wn ⟨v, rfl, hv, hk⟩; obtain ⟨oA, qA, rfl, hoA⟩ := hv.shape'; have HA := Lib.hid hv; clear hv; have hb := hb.trans (hk.mono hb.size); have b1 := b1.below hk; have b2 := b2.below hk; have b3 := b3.below hk; have b4 := b4.below hk; have b5 := b5.below hk; have b6 := b6.below hk; have b7 := b7.below hk; have l3 := b3.lt; (try have HV := Lib.hid (HV.out.below hk)); (try have HL := Lib.hid (HL.out.below hk)); (try have HR := Lib.hid (HR.out.below hk)); (try have HB := Lib.hid (HB.out.below hk)); (try have HE := Lib.hid (HE.out.below hk)); (try have HF := Lib.hid (HF.out.below hk)); have c20 := b2.c0; have c21 := b2.c1; have f20 := b2.f0; have f21 := b2.f1; have c30 := b3.c0; have c31 := b3.c1; have f30 := b3.f0; have f31 := b3.f1; clear hk)
            | (go_at_call 57; with_reducible refine Calls.mono (pair_any _ HL.out HF.out) ?_; rintro e wn ⟨v, rfl, hv, hk⟩; obtain ⟨oB, qB, rfl, hoB⟩ := hv.shape'; have HB := Lib.hid hv; clear hv; have hb := hb.trans (hk.mono hb.size); have b1 := b1.below hk; have b2 := b2.below hk; have b3 := b3.below hk; have b4 := b4.below hk; have b5 := b5.below hk; have b6 := b6.below hk; have b7 := b7.below hk; have l3 := b3.lt; (try have HV := Lib.hid (HV.out.below hk)); (try have HL := Lib.hid (HL.out.below hk)); (try have HR := Lib.hid (HR.out.below hk)); (try have HA := Lib.hid (HA.out.below hk)); (try have HE := Lib.hid (HE.out.below hk)); (try have HF := Lib.hid (HF.out.below hk)); have c20 := b2.c0; have c21 := b2.c1; have f20 := b2.f0; have f21 := b2.f1; have c30 := b3.c0; have c31 := b3.c1; have f30 := b3.f0; have f31 := b3.f1; clear hk))
        have e1 : (T.split (.n l r)).1 = T.pair l r.split.1 := by simp [T.split, hzl]
        have e2 : (T.split (.n l r)).2 = T.pair l r.split.2 := by simp [T.split, hzl]
        have fin := put2 hb b2 b3 (by omega) (by omega) hDC HA.out HB.out
        go_wp2_with fail
        exact bodyPost_ret (v := .tuple #[.agg #[.bool oA, .pointer qA], .agg #[.bool oB, .pointer qB]]) (by simp [results, go_sem, *]) rfl ⟨_, _, rfl, (e1 ▸ fin.1), (e2 ▸ fin.2.1), fin.2.2⟩
      | false =>
        cases hzr : r.isZ with
        | true =>
          go_upto_region 11 with (first
            | (go_at_call_of 24 (Value.agg #[Value.bool false, Value.pointer p]); with_reducible refine Calls.mono (isZero_is _ HV.out hz) ?_; rintro e wn ⟨rfl, hk⟩; have hb := hb.trans (hk.mono hb.size); have b1 := b1.below hk; have b2 := b2.below hk; have b3 := b3.below hk; have b4 := b4.below hk; have b5 := b5.below hk; have l3 := b3.lt; (try have HV := Lib.hid (HV.out.below hk)); (try have HL := Lib.hid (HL.out.below hk)); (try have HR := Lib.hid (HR.out.below hk)); (try have HA := Lib.hid (HA.out.below hk)); (try have HB := Lib.hid (HB.out.below hk)); (try have HE := Lib.hid (HE.out.below hk)); (try have HF := Lib.hid (HF.out.below hk)); (try clear c10 c11); have c10 := b1.c0; have c11 := b1.c1; (try clear c40 c41); have c40 := b4.c0; have c41 := b4.c1; (try clear c50 c51); have c50 := b5.c0; have c51 := b5.c1; clear hk)
            | (go_at_call_of 25 (Value.agg #[Value.bool false, Value.pointer p]); with_reducible refine Calls.mono (isOne_is _ HV.out hq) ?_; rintro e wn ⟨rfl, hk⟩; have hb := hb.trans (hk.mono hb.size); have b1 := b1.below hk; have b2 := b2.below hk; have b3 := b3.below hk; have b4 := b4.below hk; have b5 := b5.below hk; have l3 := b3.lt; (try have HV := Lib.hid (HV.out.below hk)); (try have HL := Lib.hid (HL.out.below hk)); (try have HR := Lib.hid (HR.out.below hk)); (try have HA := Lib.hid (HA.out.below hk)); (try have HB := Lib.hid (HB.out.below hk)); (try have HE := Lib.hid (HE.out.below hk)); (try have HF := Lib.hid (HF.out.below hk)); (try clear c10 c11); have c10 := b1.c0; have c11 := b1.c1; (try clear c40 c41); have c40 := b4.c0; have c41 := b4.c1; (try clear c50 c51); have c50 := b5.c0; have c51 := b5.c1; clear hk)
            | (go_at_call_of 24 (Value.agg #[Value.bool x, Value.pointer px]); with_reducible refine Calls.mono (isZero_is _ HL.out hzl) ?_; rintro e wn ⟨rfl, hk⟩; have hb := hb.trans (hk.mono hb.size); have b1 := b1.below hk; have b2 := b2.below hk; have b3 := b3.below hk; have b4 := b4.below hk; have b5 := b5.below hk; have l3 := b3.lt; (try have HV := Lib.hid (HV.out.below hk)); (try have HL := Lib.hid (HL.out.below hk)); (try have HR := Lib.hid (HR.out.below hk)); (try have HA := Lib.hid (HA.out.below hk)); (try have HB := Lib.hid (HB.out.below hk)); (try have HE := Lib.hid (HE.out.below hk)); (try have HF := Lib.hid (HF.out.below hk)); (try clear c10 c11); have c10 := b1.c0; have c11 := b1.c1; (try clear c40 c41); have c40 := b4.c0; have c41 := b4.c1; (try clear c50 c51); have c50 := b5.c0; have c51 := b5.c1; clear hk)
            | (go_at_call_of 24 (Value.agg #[Value.bool y, Value.pointer py]); with_reducible refine Calls.mono (isZero_is _ HR.out hzr) ?_; rintro e wn ⟨rfl, hk⟩; have hb := hb.trans (hk.mono hb.size); have b1 := b1.below hk; have b2 := b2.below hk; have b3 := b3.below hk; have b4 := b4.below hk; have b5 := b5.below hk; have l3 := b3.lt; (try have HV := Lib.hid (HV.out.below hk)); (try have HL := Lib.hid (HL.out.below hk)); (try have HR := Lib.hid (HR.out.below hk)); (try have HA := Lib.hid (HA.out.below hk)); (try have HB := Lib.hid (HB.out.below hk)); (try have HE := Lib.hid (HE.out.below hk)); (try have HF := Lib.hid (HF.out.below hk)); (try clear c10 c11); have c10 := b1.c0; have c11 := b1.c1; (try clear c40 c41); have c40 := b4.c0; have c41 := b4.c1; (try clear c50 c51); have c50 := b5.c0; have c51 := b5.c1; clear hk)
            | (go_at_call 55; refine Calls.mono (IL.out _ _ HL.out) ?_; rintro e wn ⟨v1, v2, rfl, hv1, hv2, hk⟩; obtain ⟨oE, qE, rfl, hoE⟩ := hv1.shape'; obtain ⟨oF, qF, rfl, hoF⟩ := hv2.shape'; have HE := Lib.hid hv1; have HF := Lib.hid hv2; clear hv1 hv2; have hb := hb.trans (hk.mono hb.size); have b1 := b1.below hk; have b2 := b2.below hk; have b3 := b3.below hk; have b4 := b4.below hk; have b5 := b5.below hk; have l3 := b3.lt; (try have HV := Lib.hid (HV.out.below hk)); (try have HL := Lib.hid (HL.out.below hk)); (try have HR := Lib.hid (HR.out.below hk)); (try have HA := Lib.hid (HA.out.below hk)); (try have HB := Lib.hid (HB.out.below hk)); (try clear c10 c11); have c10 := b1.c0; have c11 := b1.c1; (try clear c40 c41); have c40 := b4.c0; have c41 := b4.c1; (try clear c50 c51); have c50 := b5.c0; have c51 := b5.c1; clear hk))
          have b6 := (Bx.new wn oE qE).alloc (.cells #[.bool oF, .pointer qF] 31)
          have b7 := Bx.new1 wn oF qF (.cells #[.bool oE, .pointer qE] 31)
          have b1 := (b1.alloc (.cells #[.bool oE, .pointer qE] 31)).alloc (.cells #[.bool oF, .pointer qF] 31)
          have b2 := (b2.alloc (.cells #[.bool oE, .pointer qE] 31)).alloc (.cells #[.bool oF, .pointer qF] 31)
          have b3 := (b3.alloc (.cells #[.bool oE, .pointer qE] 31)).alloc (.cells #[.bool oF, .pointer qF] 31)
          have b4 := (b4.alloc (.cells #[.bool oE, .pointer qE] 31)).alloc (.cells #[.bool oF, .pointer qF] 31)
          have b5 := (b5.alloc (.cells #[.bool oE, .pointer qE] 31)).alloc (.cells #[.bool oF, .pointer qF] 31)
          have hb := (hb.alloc hb.size (.cells #[.bool oE, .pointer qE] 31)).alloc (by simp only [asz]; have := hb.size; omega) (.cells #[.bool oF, .pointer qF] 31)
          have HV := Lib.hid ((HV.out.alloc (.cells #[.bool oE, .pointer qE] 31)).alloc (.cells #[.bool oF, .pointer qF] 31))
          have HL := Lib.hid ((HL.out.alloc (.cells #[.bool oE, .pointer qE] 31)).alloc (.cells #[.bool oF, .pointer qF] 31))
          have HR := Lib.hid ((HR.out.alloc (.cells #[.bool oE, .pointer qE] 31)).alloc (.cells #[.bool oF, .pointer qF] 31))
          have HE := Lib.hid ((HE.out.alloc (.cells #[.bool oE, .pointer qE] 31)).alloc (.cells #[.bool oF, .pointer qF] 31))
          have HF := Lib.hid ((HF.out.alloc (.cells #[.bool oE, .pointer qE] 31)).alloc (.cells #[.bool oF, .pointer qF] 31))
          generalize (wn.alloc (.cells #[.bool oE, .pointer qE] 31)).alloc (.cells #[.bool oF, .pointer qF] 31) = w4 at *
          obtain ⟨E, hE⟩ : ∃ E, wn.heap.size = E := ⟨_, rfl⟩
          rw [hE] at b6 b7 l3 ⊢
          obtain ⟨F, hF⟩ : ∃ F, E + 1 = F := ⟨_, rfl⟩
          rw [hF] at b7 ⊢
          have hb0 := hb
          have hb := bdrew hb
          have b10 := b1
          have b20 := b2
          have b30 := b3
          have b40 := b4
          have b50 := b5
          have b60 := b6
          have b70 := b7
          have HV0 := HV
          have b1 := b1.drew
          have b2 := b2.drew
          have b3 := b3.drew
          have b4 := b4.drew
          have b5 := b5.drew
          have b6 := b6.drew
          have b7 := b7.drew
          try have HV := Lib.hid HV.out.drew
          try have HL := Lib.hid HL.out.drew
          try have HR := Lib.hid HR.out.drew
          try have HA := Lib.hid HA.out.drew
          try have HB := Lib.hid HB.out.drew
          try have HE := Lib.hid HE.out.drew
          try have HF := Lib.hid HF.out.drew
          have c20 := b2.c0
          have c21 := b2.c1
          have f20 := b2.f0
          have f21 := b2.f1
          have c30 := b3.c0
          have c31 := b3.c1
          have f30 := b3.f0
          have f31 := b3.f1
          go_region_held3 (fun w' => w'.cell? ⟨R, 0, none⟩ = some (.bool y) ∧ w'.cell? ⟨R, 1, none⟩ = some (.pointer py) ∧ w'.cell? ⟨E, 0, none⟩ = some (.bool oE) ∧ w'.cell? ⟨E, 1, none⟩ = some (.pointer qE) ∧ w'.cell? ⟨F, 0, none⟩ = some (.bool oF) ∧ w'.cell? ⟨F, 1, none⟩ = some (.pointer qF)) (with_reducible (refine (fun h0 h1 h2 => ⟨Bx.c0 h0, Bx.c1 h0, Bx.c0 h1, Bx.c1 h1, Bx.c0 h2, Bx.c1 h2⟩ : Bx _ R y py → Bx _ E oE qE → Bx _ F oF qF → _) ?_ ?_ ?_; all_goals repeat (first | exact b5 | exact b50 | exact b6 | exact b60 | exact b7 | exact b70 | refine Bx.drew ?_ | refine Bx.far ?_ (by first | assumption | exact Ne.symm (by assumption) | omega) _ _)))
            (first
              | (go_at_call 57; with_reducible refine Calls.mono (pair_any _ HE.out HR.out) ?_; rintro e wn ⟨v, rfl, hv, hk⟩; obtain ⟨oA, qA, rfl, hoA⟩ := hv.shape'; have HA := Lib.hid hv; clear hv; have hb := hb.trans (hk.mono hb.size); have b1 := b1.below hk; have b2 := b2.below hk; have b3 := b3.below hk; have b4 := b4.below hk; have b5 := b5.below hk; have b6 := b6.below hk; have b7 := b7.below hk; have l3 := b3.lt; (try have HV := Lib.hid (HV.out.below hk)); (try have HL := Lib.hid (HL.out.below hk)); (try have HR := Lib.hid (HR.out.below hk)); (try have HB := Lib.hid (HB.out.below hk)); (try have HE := Lib.hid (HE.out.below hk)); (try have HF := Lib.hid (HF.out.below hk)); have c20 := b2.c0; have c21 := b2.c1; have f20 := b2.f0; have f21 := b2.f1; have c30 := b3.c0; have c31 := b3.c1; have f30 := b3.f0; have f31 := b3.f1; clear hk)
              | (go_at_call 57; with_reducible refine Calls.mono (pair_any _ HF.out HR.out) ?_; rintro e wn ⟨v, rfl, hv, hk⟩; obtain ⟨oB, qB, rfl, hoB⟩ := hv.shape'; have HB := Lib.hid hv; clear hv; have hb := hb.trans (hk.mono hb.size); have b1 := b1.below hk; have b2 := b2.below hk; have b3 := b3.below hk; have b4 := b4.below hk; have b5 := b5.below hk; have b6 := b6.below hk; have b7 := b7.below hk; have l3 := b3.lt; (try have HV := Lib.hid (HV.out.below hk)); (try have HL := Lib.hid (HL.out.below hk)); (try have HR := Lib.hid (HR.out.below hk)); (try have HA := Lib.hid (HA.out.below hk)); (try have HE := Lib.hid (HE.out.below hk)); (try have HF := Lib.hid (HF.out.below hk)); have c20 := b2.c0; have c21 := b2.c1; have f20 := b2.f0; have f21 := b2.f1; have c30 := b3.c0; have c31 := b3.c1; have f30 := b3.f0; have f31 := b3.f1; clear hk))
          have e1 : (T.split (.n l r)).1 = T.pair l.split.1 r := by simp [T.split, hzl, hzr]
          have e2 : (T.split (.n l r)).2 = T.pair l.split.2 r := by simp [T.split, hzl, hzr]
          have fin := put2 hb b2 b3 (by omega) (by omega) hDC HA.out HB.out
          go_wp2_with fail
          exact bodyPost_ret (v := .tuple #[.agg #[.bool oA, .pointer qA], .agg #[.bool oB, .pointer qB]]) (by simp [results, go_sem, *]) rfl ⟨_, _, rfl, (e1 ▸ fin.1), (e2 ▸ fin.2.1), fin.2.2⟩
        | false =>
          go_upto_region 12 with (first
            | (go_at_call_of 24 (Value.agg #[Value.bool false, Value.pointer p]); with_reducible refine Calls.mono (isZero_is _ HV.out hz) ?_; rintro e wn ⟨rfl, hk⟩; have hb := hb.trans (hk.mono hb.size); have b1 := b1.below hk; have b2 := b2.below hk; have b3 := b3.below hk; have b4 := b4.below hk; have b5 := b5.below hk; have l3 := b3.lt; (try have HV := Lib.hid (HV.out.below hk)); (try have HL := Lib.hid (HL.out.below hk)); (try have HR := Lib.hid (HR.out.below hk)); (try have HA := Lib.hid (HA.out.below hk)); (try have HB := Lib.hid (HB.out.below hk)); (try have HE := Lib.hid (HE.out.below hk)); (try have HF := Lib.hid (HF.out.below hk)); (try clear c10 c11); have c10 := b1.c0; have c11 := b1.c1; (try clear c40 c41); have c40 := b4.c0; have c41 := b4.c1; (try clear c50 c51); have c50 := b5.c0; have c51 := b5.c1; clear hk)
            | (go_at_call_of 25 (Value.agg #[Value.bool false, Value.pointer p]); with_reducible refine Calls.mono (isOne_is _ HV.out hq) ?_; rintro e wn ⟨rfl, hk⟩; have hb := hb.trans (hk.mono hb.size); have b1 := b1.below hk; have b2 := b2.below hk; have b3 := b3.below hk; have b4 := b4.below hk; have b5 := b5.below hk; have l3 := b3.lt; (try have HV := Lib.hid (HV.out.below hk)); (try have HL := Lib.hid (HL.out.below hk)); (try have HR := Lib.hid (HR.out.below hk)); (try have HA := Lib.hid (HA.out.below hk)); (try have HB := Lib.hid (HB.out.below hk)); (try have HE := Lib.hid (HE.out.below hk)); (try have HF := Lib.hid (HF.out.below hk)); (try clear c10 c11); have c10 := b1.c0; have c11 := b1.c1; (try clear c40 c41); have c40 := b4.c0; have c41 := b4.c1; (try clear c50 c51); have c50 := b5.c0; have c51 := b5.c1; clear hk)
            | (go_at_call_of 24 (Value.agg #[Value.bool x, Value.pointer px]); with_reducible refine Calls.mono (isZero_is _ HL.out hzl) ?_; rintro e wn ⟨rfl, hk⟩; have hb := hb.trans (hk.mono hb.size); have b1 := b1.below hk; have b2 := b2.below hk; have b3 := b3.below hk; have b4 := b4.below hk; have b5 := b5.below hk; have l3 := b3.lt; (try have HV := Lib.hid (HV.out.below hk)); (try have HL := Lib.hid (HL.out.below hk)); (try have HR := Lib.hid (HR.out.below hk)); (try have HA := Lib.hid (HA.out.below hk)); (try have HB := Lib.hid (HB.out.below hk)); (try have HE := Lib.hid (HE.out.below hk)); (try have HF := Lib.hid (HF.out.below hk)); (try clear c10 c11); have c10 := b1.c0; have c11 := b1.c1; (try clear c40 c41); have c40 := b4.c0; have c41 := b4.c1; (try clear c50 c51); have c50 := b5.c0; have c51 := b5.c1; clear hk)
            | (go_at_call_of 24 (Value.agg #[Value.bool y, Value.pointer py]); with_reducible refine Calls.mono (isZero_is _ HR.out hzr) ?_; rintro e wn ⟨rfl, hk⟩; have hb := hb.trans (hk.mono hb.size); have b1 := b1.below hk; have b2 := b2.below hk; have b3 := b3.below hk; have b4 := b4.below hk; have b5 := b5.below hk; have l3 := b3.lt; (try have HV := Lib.hid (HV.out.below hk)); (try have HL := Lib.hid (HL.out.below hk)); (try have HR := Lib.hid (HR.out.below hk)); (try have HA := Lib.hid (HA.out.below hk)); (try have HB := Lib.hid (HB.out.below hk)); (try have HE := Lib.hid (HE.out.below hk)); (try have HF := Lib.hid (HF.out.below hk)); (try clear c10 c11); have c10 := b1.c0; have c11 := b1.c1; (try clear c40 c41); have c40 := b4.c0; have c41 := b4.c1; (try clear c50 c51); have c50 := b5.c0; have c51 := b5.c1; clear hk))
          have hb0 := hb
          have hb := bdrew hb
          have b10 := b1
          have b20 := b2
          have b30 := b3
          have b40 := b4
          have b50 := b5
          have HV0 := HV
          have b1 := b1.drew
          have b2 := b2.drew
          have b3 := b3.drew
          have b4 := b4.drew
          have b5 := b5.drew
          try have HV := Lib.hid HV.out.drew
          try have HL := Lib.hid HL.out.drew
          try have HR := Lib.hid HR.out.drew
          try have HA := Lib.hid HA.out.drew
          try have HB := Lib.hid HB.out.drew
          try have HE := Lib.hid HE.out.drew
          try have HF := Lib.hid HF.out.drew
          have c20 := b2.c0
          have c21 := b2.c1
          have f20 := b2.f0
          have f21 := b2.f1
          have c30 := b3.c0
          have c31 := b3.c1
          have f30 := b3.f0
          have f31 := b3.f1
          go_region_held3 (fun w' => w'.cell? ⟨L, 0, none⟩ = some (.bool x) ∧ w'.cell? ⟨L, 1, none⟩ = some (.pointer px) ∧ w'.cell? ⟨R, 0, none⟩ = some (.bool y) ∧ w'.cell? ⟨R, 1, none⟩ = some (.pointer py)) (with_reducible (refine (fun h0 h1 => ⟨Bx.c0 h0, Bx.c1 h0, Bx.c0 h1, Bx.c1 h1⟩ : Bx _ L x px → Bx _ R y py → _) ?_ ?_; all_goals repeat (first | exact b4 | exact b40 | exact b5 | exact b50 | refine Bx.drew ?_ | refine Bx.far ?_ (by first | assumption | exact Ne.symm (by assumption) | omega) _ _)))
            (first
              | (go_at_call 21; refine Calls.mono (zero_any _) ?_; rintro e wn ⟨v, rfl, rfl, hk⟩; have hb := hb.trans (hk.mono hb.size); have b1 := b1.below hk; have b2 := b2.below hk; have b3 := b3.below hk; have b4 := b4.below hk; have b5 := b5.below hk; have l3 := b3.lt; (try have HV := Lib.hid (HV.out.below hk)); (try have HL := Lib.hid (HL.out.below hk)); (try have HR := Lib.hid (HR.out.below hk)); (try have HA := Lib.hid (HA.out.below hk)); (try have HB := Lib.hid (HB.out.below hk)); (try have HE := Lib.hid (HE.out.below hk)); (try have HF := Lib.hid (HF.out.below hk)); clear hk)
              | (go_at_call 57; with_reducible refine Calls.mono (pair_any _ HL.out (IDV.zero _)) ?_; rintro e wn ⟨v, rfl, hv, hk⟩; obtain ⟨oA, qA, rfl, hoA⟩ := hv.shape'; have HA := Lib.hid hv; clear hv; have hb := hb.trans (hk.mono hb.size); have b1 := b1.below hk; have b2 := b2.below hk; have b3 := b3.below hk; have b4 := b4.below hk; have b5 := b5.below hk; have l3 := b3.lt; (try have HV := Lib.hid (HV.out.below hk)); (try have HL := Lib.hid (HL.out.below hk)); (try have HR := Lib.hid (HR.out.below hk)); (try have HB := Lib.hid (HB.out.below hk)); (try have HE := Lib.hid (HE.out.below hk)); (try have HF := Lib.hid (HF.out.below hk)); have c20 := b2.c0; have c21 := b2.c1; have f20 := b2.f0; have f21 := b2.f1; have c30 := b3.c0; have c31 := b3.c1; have f30 := b3.f0; have f31 := b3.f1; clear hk)
              | (go_at_call 57; with_reducible refine Calls.mono (pair_any _ (IDV.zero _) HR.out) ?_; rintro e wn ⟨v, rfl, hv, hk⟩; obtain ⟨oB, qB, rfl, hoB⟩ := hv.shape'; have HB := Lib.hid hv; clear hv; have hb := hb.trans (hk.mono hb.size); have b1 := b1.below hk; have b2 := b2.below hk; have b3 := b3.below hk; have b4 := b4.below hk; have b5 := b5.below hk; have l3 := b3.lt; (try have HV := Lib.hid (HV.out.below hk)); (try have HL := Lib.hid (HL.out.below hk)); (try have HR := Lib.hid (HR.out.below hk)); (try have HA := Lib.hid (HA.out.below hk)); (try have HE := Lib.hid (HE.out.below hk)); (try have HF := Lib.hid (HF.out.below hk)); have c20 := b2.c0; have c21 := b2.c1; have f20 := b2.f0; have f21 := b2.f1; have c30 := b3.c0; have c31 := b3.c1; have f30 := b3.f0; have f31 := b3.f1; clear hk))
          have e1 : (T.split (.n l r)).1 = T.pair l .z := by simp [T.split, hzl, hzr]
          have e2 : (T.split (.n l r)).2 = T.pair .z r := by simp [T.split, hzl, hzr]
          have fin := put2 hb b2 b3 (by omega) (by omega) hDC HA.out HB.out
          go_wp2_with fail
          exact bodyPost_ret (v := .tuple #[.agg #[.bool oA, .pointer qA], .agg #[.bool oB, .pointer qB]]) (by simp [results, go_sem, *]) rfl ⟨_, _, rfl, (e1 ▸ fin.1), (e2 ▸ fin.2.1), fin.2.2⟩
theorem split_any : ∀ t : T, SplitOk t
  | .z => fun _ _ h => split_step (fun _ _ h => by cases h) h
  | .o => fun _ _ h => split_step (fun _ _ h => by cases h) h
  | .n l r => fun _ _ h => split_step (fun l' r' h => by cases h; exact ⟨split_any l, split_any r⟩) h
end Go.Proofs.Ytigkjmfkpmehlaa
