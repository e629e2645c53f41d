/- event.right, Node; tree (of kinfolklaw03). (Printed by wip/ids/evtree2.py.) -/
import Derived.Test.YtigkjmfkpmehlaaEvNodeP
namespace Go.Proofs.Ytigkjmfkpmehlaa
open Go.RowKit

theorem EVV.shape_nd {w : World} {n : Nat} {x y : Ev} {v : Value} (h : EVV w (.nd n x y) v) : ∃ p, v = .agg #[.int .u64 (n : Int), .pointer p] ∧ True := by
  obtain ⟨c, _, _, hv, _⟩ := h
  exact ⟨_, hv, trivial⟩
set_option maxHeartbeats 1600000 in
theorem eright_err {e : Ev} {v : Value} (w : World) (h : EVV w e v) (hd : e.depth ≤ 16) (ht : e.top ≤ 1048576) : Calls Try.prog 90 #[v] w fun x w' => x = .returned (.int .i64 0) ∧ Below w.heap.size w w' := by
  obtain ⟨p, rfl, _⟩ := h.shape
  have H := Lib.hid h
  obtain ⟨A, hA⟩ : ∃ A, e.base = A := ⟨_, rfl⟩
  rw [hA] at H ⊢
  have d1 : ¬ (16 : Int) < (e.depth : Int) := by omega
  have d2 : ¬ (1048576 : Int) < (e.top : Int) := by omega
  have HD := Lib.hid (fun (wx : World) (hb : Below w.heap.size w wx) => edepth_any wx (EVV.below hb H.out) (by omega))
  have HT := Lib.hid (fun (wx : World) (hb : Below w.heap.size w wx) => emax_any wx (EVV.below hb H.out) (by omega))
  clear h hA hd ht
  generalize e.depth = D at *
  generalize e.top = T at *
  have b1 := EB.new w A p
  have hb := bel0 w (.cells #[.int .u64 (A : Int), .pointer p] 77)
  go_enter Try.func90, Try.ntmps90
  go_wp2_with fail
  generalize w.alloc (.cells #[.int .u64 (A : Int), .pointer p] 77) = w3 at *
  obtain ⟨B, hB⟩ : ∃ B, w.heap.size = B := ⟨_, rfl⟩
  rw [hB] at b1 ⊢
  have c10 := b1.c0
  have c11 := b1.c1
  go_wp2_with (first
    | (go_at_call 98; (with_reducible refine Calls.mono (HD.out _ hb) ?_); rintro x wn ⟨rfl, hkk⟩; have hb := hb.trans (hkk.mono hb.size); have b1 := b1.below hkk; clear c10 c11 hkk; have c10 := b1.c0; have c11 := b1.c1)
    | (go_at_call 99; (with_reducible refine Calls.mono (HT.out _ hb) ?_); rintro x wn ⟨rfl, hkk⟩; have hb := hb.trans (hkk.mono hb.size); have b1 := b1.below hkk; clear c10 c11 hkk; have c10 := b1.c0; have c11 := b1.c1))
  go_ret
  exact ⟨rfl, hb⟩
set_option maxRecDepth 100000 in
set_option maxHeartbeats 3200000 in
theorem eNode_any {k : Nat} {a b : Ev} {K : Int} {va vb : Value} (w : World) (hK : K = (k : Int)) (ha : EVV w a va) (hb : EVV w b vb) (hmin : min a.base b.base = 0) (hal : Ev.alike a b = false) (hd : (Ev.nd k a b).depth ≤ 16) (ht : (Ev.nd k a b).top ≤ 1048576) :
    Calls Try.prog 77 #[.int .u64 K, va, vb] w fun x w' => ∃ v, x = .returned (.tuple #[v, .int .i64 0]) ∧ EVV w' (.nd k a b) v ∧ Below w.heap.size w w' := by
  subst hK
  have htt := ht
  rw [Ev.top_nd] at htt
  have ba := a.base_top
  have bb := b.base_top
  have k1 : (k : Int) ≤ 2097152 := by omega
  have k2 : ¬ (2097152 : Int) < (k : Int) := by omega
  have HN := Lib.hid (fun (wx : World) (hx : Below w.heap.size w wx) => enode_any (k := k) (K := (k : Int)) wx rfl (by omega) (EVV.below hx ha) (EVV.below hx hb) (by omega) (by omega) hmin hal)
  have HR := Lib.hid (fun (wx : World) (v : Value) (hv : EVV wx (.nd k a b) v) => eright_err wx hv hd ht)
  obtain ⟨pa, rfl, _⟩ := ha.shape
  obtain ⟨pb, rfl, _⟩ := hb.shape
  obtain ⟨A, hA⟩ : ∃ A, a.base = A := ⟨_, rfl⟩
  obtain ⟨B, hB⟩ : ∃ B, b.base = B := ⟨_, rfl⟩
  rw [hA] at HN ⊢
  rw [hB] at HN ⊢
  clear ha hb hmin hal hd ht htt ba bb hA hB
  have b1 := ((EB.new w A pa).alloc (.cells #[.int .u64 (B : Int), .pointer pb] 77)).alloc (.cells #[.int .u64 0, .pointer none] 77)
  have b2 := (EB.new (w.alloc (.cells #[.int .u64 (A : Int), .pointer pa] 77)) B pb).alloc (.cells #[.int .u64 0, .pointer none] 77)
  have b3 := EB.new ((w.alloc (.cells #[.int .u64 (A : Int), .pointer pa] 77)).alloc (.cells #[.int .u64 (B : Int), .pointer pb] 77)) 0 none
  have hb := ((bel0 w (.cells #[.int .u64 (A : Int), .pointer pa] 77)).alloc (by simp) (.cells #[.int .u64 (B : Int), .pointer pb] 77)).alloc (by simp; omega) (.cells #[.int .u64 0, .pointer none] 77)
  simp only [asz] at b2 b3
  go_enter Try.func77, Try.ntmps77
  go_upto_region 1 with (fail)
  generalize ((w.alloc (.cells #[.int .u64 (A : Int), .pointer pa] 77)).alloc (.cells #[.int .u64 (B : Int), .pointer pb] 77)).alloc (.cells #[.int .u64 0, .pointer none] 77) = w3 at *
  obtain ⟨X1, e1⟩ : ∃ X, w.heap.size = X := ⟨_, rfl⟩
  rw [e1] at b1 b2 b3 ⊢
  obtain ⟨X2, e2⟩ : ∃ X, X1 + 1 = X := ⟨_, rfl⟩
  rw [e2] at b2 b3 ⊢
  obtain ⟨X3, e3⟩ : ∃ X, X2 + 1 = X := ⟨_, rfl⟩
  rw [e3] at b3 ⊢
  have c10 := b1.c0
  have c11 := b1.c1
  have c20 := b2.c0
  have c21 := b2.c1
  go_upto_region 2 with (go_at_call 89; (with_reducible refine Calls.mono (HN.out _ hb) ?_); rintro x wn ⟨v, rfl, hv, hkk⟩; have hb := hb.trans (hkk.mono hb.size); have b3 := b3.below hkk; have HV := Lib.hid hv; obtain ⟨pv, rfl, _⟩ := hv.shape_nd; clear hv hkk)
  have b4 := EB.new wn k pv
  have b3 := b3.alloc (.cells #[.int .u64 (k : Int), .pointer pv] 77)
  have HV := Lib.hid (HV.out.alloc (.cells #[.int .u64 (k : Int), .pointer pv] 77))
  have hb := hb.alloc hb.size (.cells #[.int .u64 (k : Int), .pointer pv] 77)
  generalize wn.alloc (.cells #[.int .u64 (k : Int), .pointer pv] 77) = wz at *
  obtain ⟨X4, e4⟩ : ∃ X, wn.heap.size = X := ⟨_, rfl⟩
  rw [e4] at b4 ⊢
  clear c10 c11 c20 c21
  have c40 := b4.c0
  have c41 := b4.c1
  have c30 := b3.c0
  have c31 := b3.c1
  have f30 := b3.f0
  have f31 := b3.f1
  go_wp2_with (go_at_call 90; (with_reducible refine Calls.mono (HR.out _ _ HV.out) ?_); rintro x wn ⟨rfl, hkk⟩; have hb := hb.trans (hkk.mono hb.size); have b3 := b3.below hkk; have b4 := b4.below hkk; have HV := Lib.hid (HV.out.below hkk); clear c40 c41 c30 c31 f30 f31 hkk; have c40 := b4.c0; have c41 := b4.c1; have c30 := b3.c0; have c31 := b3.c1; have f30 := b3.f0; have f31 := b3.f1)
  have hf := eput hb (R := X3) (by omega) (.int .u64 (k : Int)) (.pointer pv)
  exact bodyPost_ret (v := .tuple #[.agg #[.int .u64 (k : Int), .pointer pv], .int .i64 0]) (by simp [results, go_sem, *]) rfl ⟨_, rfl, HV.out.kp (K2.put b3 _ _), by first | exact hf | (rw [← e1]; exact hf)⟩
theorem EN.far {w : World} {C b n : Nat} {pl pr : Option Addr} (h : EN w b n pl pr) (hne : b ≠ C) (x y : Value) : EN ((w.setCell ⟨C, 0, none⟩ x).setCell ⟨C, 1, none⟩ y) b n pl pr :=
  (Below.heap_setCell _ _ _ _ hne).trans ((Below.heap_setCell _ _ _ _ hne).trans h)
theorem EB.ne {w : World} {b n : Nat} {p : Option Addr} (h : EB w b n p) : w.heap.size ≠ b := by have := h.lt; omega
theorem EB.new_of {a w : World} {B n : Nat} (_ : Below B a w) (h : w.heap.size = n) : EB (w.alloc (.cells #[.int .u64 0, .pointer none] 77)) n 0 none := by
  subst h
  exact EB.new w 0 none
theorem EB.far {w : World} {C b n : Nat} {p : Option Addr} (h : EB w b n p) (hne : b ≠ C) (x y : Value) : EB ((w.setCell ⟨C, 0, none⟩ x).setCell ⟨C, 1, none⟩ y) b n p :=
  (Below.heap_setCell _ _ _ _ hne).trans ((Below.heap_setCell _ _ _ _ hne).trans h)
theorem EB.put {w : World} {C n m : Nat} {p q : Option Addr} (h : EB w C n p) : EB ((w.setCell ⟨C, 0, none⟩ (.int .u64 (m : Int))).setCell ⟨C, 1, none⟩ (.pointer q)) C m q := by
  have h1 := blk_set h 0 (.int .u64 (m : Int))
  exact blk_set h1 1 (.pointer q)
/-- Behind the first statement of a node: the tree, in a box. -/
def EvX (w : World) (B : Nat) (t : Ev) (s3 : Value) (wx : World) : Prop :=
  ∃ (X m : Nat) (px : Option Addr), s3 = .pointer (some ⟨X, 0, none⟩) ∧ EB wx X m px ∧ EVV wx t (.agg #[.int .u64 (m : Int), .pointer px]) ∧ Below w.heap.size w wx ∧ EB wx B 0 none ∧ X ≠ B
theorem EvX.new {w W : World} {B m : Nat} {t : Ev} {p : Option Addr} (hb : Below w.heap.size w W) (hv : EVV W t (.agg #[.int .u64 (m : Int), .pointer p])) (b1 : EB W B 0 none) : EvX w B t (.pointer (some ⟨W.heap.size, 0, none⟩)) (W.alloc (.cells #[.int .u64 (m : Int), .pointer p] 77)) :=
  ⟨W.heap.size, m, p, rfl, EB.new W m p, hv.alloc _, hb.alloc hb.size _, b1.alloc _, b1.ne⟩
theorem EvX.put {w W : World} {B X m k : Nat} {t : Ev} {p d : Option Addr} (hb : Below w.heap.size w W) (hv : EVV W t (.agg #[.int .u64 (m : Int), .pointer p])) (b1 : EB W B 0 none) (bx : EB W X k d) (h1 : w.heap.size ≤ X) (h2 : X ≠ B) :
    EvX w B t (.pointer (some ⟨X, 0, none⟩)) ((W.setCell ⟨X, 0, none⟩ (.int .u64 (m : Int))).setCell ⟨X, 1, none⟩ (.pointer p)) :=
  ⟨X, m, p, rfl, bx.put, hv.kp (K2.put bx _ _), eput hb h1 _ _, b1.far (Ne.symm h2) _ _, h2⟩
set_option maxRecDepth 100000 in
set_option maxHeartbeats 3200000 in
theorem tree_any : ∀ {e : Ev} {v : Value} (w : World), e.nf = true → e.depth ≤ 16 → e.top ≤ 1048576 → REV w e v → Calls Try.prog 52 #[v] w fun x w' => ∃ u, x = .returned u ∧ EVV w' e u ∧ Below w.heap.size w w'
  | .lf n, v, w, hnm, hd, ht, h => by
    obtain ⟨b, rfl, hn⟩ := h
    have HLF := Lib.hid (fun (wx : World) => eLeaf_any (n := n) (K := (n : Int)) wx rfl (by simp only [Ev.top] at ht; omega))
    have b1 := EB.new w 0 none
    have hn := hn.below (bel0 w (.cells #[.int .u64 0, .pointer none] 77))
    have hb := bel0 w (.cells #[.int .u64 0, .pointer none] 77)
    have c1 := hn.c1
    have c0 := hn.c0
    clear hnm hd ht
    go_enter Try.func52, Try.ntmps52
    go_upto_region 1 with (fail)
    generalize w.alloc (.cells #[.int .u64 0, .pointer none] 77) = w3 at *
    obtain ⟨B, hBB⟩ : ∃ B, w.heap.size = B := ⟨_, rfl⟩
    rw [hBB] at b1 ⊢
    go_upto_region 3 with (go_at_call 76; (with_reducible refine Calls.mono (HLF.out _) ?_); rintro x wn ⟨u, rfl, rfl, hkk⟩; have hb := hb.trans (hkk.mono hb.size); have b1 := b1.below hkk; clear hkk)
    have b4 := EB.new wn n none
    have b1 := b1.alloc (.cells #[.int .u64 (n : Int), .pointer none] 77)
    have hb := hb.alloc hb.size (.cells #[.int .u64 (n : Int), .pointer none] 77)
    generalize wn.alloc (.cells #[.int .u64 (n : Int), .pointer none] 77) = wz at *
    obtain ⟨X4, e4⟩ : ∃ X, wn.heap.size = X := ⟨_, rfl⟩
    rw [e4] at b4 ⊢
    clear c0 c1
    have c40 := b4.c0
    have c41 := b4.c1
    have c30 := b1.c0
    have c31 := b1.c1
    have f30 := b1.f0
    have f31 := b1.f1
    go_wp2_with fail
    have hf := eput hb (R := B) (by omega) (.int .u64 (n : Int)) (.pointer none)
    exact bodyPost_ret (v := .agg #[.int .u64 (n : Int), .pointer none]) (by simp [results, go_sem, *]) rfl ⟨_, rfl, rfl, by first | exact hf | (rw [← hBB]; exact hf) | (subst hBB; exact hf)⟩
  | .nd n x y, v, w, hnm, hd, ht, h => by
    obtain ⟨b, pl, pr, rfl, hn, hl, hr⟩ := h
    have HL := Lib.hid hl
    have HR := Lib.hid hr
    clear hl hr
    obtain ⟨n1, n2, hmin, hal⟩ := Ev.nf_n hnm
    have hdm : (Ev.nd n x y).depth = 1 + max x.depth y.depth := rfl
    have htm : (Ev.nd n x y).top = n + max x.top y.top := rfl
    have il := fun (vx : Value) (wx : World) hx => tree_any (e := x) (v := vx) wx n1 (by omega) (by omega) hx
    have ir := fun (vx : Value) (wx : World) hx => tree_any (e := y) (v := vx) wx n2 (by omega) (by omega) hx
    have IL := Lib.hid il
    have IR := Lib.hid ir
    have HP := Lib.hid (fun (wx : World) (va vb : Value) (h1 : EVV wx x va) (h2 : EVV wx y vb) => eNode_any (k := n) (K := (n : Int)) wx rfl h1 h2 hmin hal hd ht)
    clear il ir n1 n2 hdm htm hmin hal hnm hd ht
    have b1 := EB.new w 0 none
    have hn := hn.below (bel0 w (.cells #[.int .u64 0, .pointer none] 77))
    have hb := bel0 w (.cells #[.int .u64 0, .pointer none] 77)
    have c1 := hn.c1
    go_enter Try.func52, Try.ntmps52
    go_upto_region 4 with (fail)
    generalize w.alloc (.cells #[.int .u64 0, .pointer none] 77) = w3 at *
    obtain ⟨B, hBB⟩ : ∃ B, w.heap.size = B := ⟨_, rfl⟩
    rw [hBB] at b1 ⊢
    have hb0 := hb
    have b10 := b1
    have hn0 := hn
    have hb := bdrew hb
    have b1 := b1.drew
    have hn := hn.drew
    have m0 : w3.heap.size ≠ b := by have := hn0.lt; omega
    have m1 : w3.heap.size ≠ B := b10.ne
    go_cut [5, 6] (fun s3 s4 wx => EvX w B (.nd n x y) s3 wx)
    case first =>
      go_region_held3 (fun w' => w'.cell? ⟨b, 0, none⟩ = some (.int .u64 (n : Int)) ∧ w'.cell? ⟨b, 1, none⟩ = some (.pointer (some ⟨pl, 0, none⟩)) ∧ w'.cell? ⟨b, 2, none⟩ = some (.pointer (some ⟨pr, 0, none⟩))) (with_reducible first
        | exact ⟨hn.c0, hn.c1, hn.c2⟩
        | (refine (fun h => ⟨EN.c0 h, EN.c1 h, EN.c2 h⟩ : EN _ b n (some ⟨pl, 0, none⟩) (some ⟨pr, 0, none⟩) → _) ?_
           repeat (first | exact hn | exact hn0 | refine EN.drew ?_ | refine EN.below ?_ (bel0 _ _) | refine EN.far ?_ (by first | assumption | exact Ne.symm (by assumption)) _ _)))
        (first
        | (go_at_call_of 52 (Value.pointer (some ⟨pl, 0, none⟩)); first
          | ((with_reducible refine Calls.mono (IL.out _ _ (HL.out.below hb)) ?_); rintro e wn ⟨v, rfl, hv, hkk⟩; obtain ⟨qA, rfl, _⟩ := hv.shape; have hb := hb.trans (hkk.mono hb.size); have b1 := b1.below hkk; have hn := hn.below hkk; have HA := Lib.hid hv; clear hv; (try have bx1 := bx1.below hkk); clear hkk; have m0 : wn.heap.size ≠ b := (by have := hn.lt; omega); have m1 : wn.heap.size ≠ B := b1.ne; (try (have cx10 := bx1.c0; have cx11 := bx1.c1; have fx10 := bx1.f0; have fx11 := bx1.f1; have lx1 := bx1.lt; have nx1 := bx1.ne)))
          | (have bx1 := EB.drew (EB.new_of (n := w3.heap.size) hb0 rfl); have ex1 : w3.heap.size ≠ b := (by have := hn0.lt; omega); have eB1 : w3.heap.size ≠ B := b10.ne; have hx1 : w.heap.size ≤ w3.heap.size := hb0.size; have hb := bdrew (hb0.alloc hb0.size (.cells #[.int .u64 0, .pointer none] 77)); have b1 := (b10.alloc (.cells #[.int .u64 0, .pointer none] 77)).drew; have hn := (hn0.below (bel0 _ (.cells #[.int .u64 0, .pointer none] 77))).drew; (with_reducible refine Calls.mono (IL.out _ _ (HL.out.below hb)) ?_); rintro e wn ⟨v, rfl, hv, hkk⟩; obtain ⟨qA, rfl, _⟩ := hv.shape; have hb := hb.trans (hkk.mono hb.size); have b1 := b1.below hkk; have hn := hn.below hkk; have HA := Lib.hid hv; clear hv; (try have bx1 := bx1.below hkk); clear hkk; have m0 : wn.heap.size ≠ b := (by have := hn.lt; omega); have m1 : wn.heap.size ≠ B := b1.ne; (try (have cx10 := bx1.c0; have cx11 := bx1.c1; have fx10 := bx1.f0; have fx11 := bx1.f1; have lx1 := bx1.lt; have nx1 := bx1.ne))))
        | (go_at_call_of 52 (Value.pointer (some ⟨pr, 0, none⟩)); first
          | ((with_reducible refine Calls.mono (IR.out _ _ (HR.out.below hb)) ?_); rintro e wn ⟨v, rfl, hv, hkk⟩; obtain ⟨qB, rfl, _⟩ := hv.shape; have hb := hb.trans (hkk.mono hb.size); have b1 := b1.below hkk; have hn := hn.below hkk; (try have HA := Lib.hid (HA.out.below hkk)); have HB := Lib.hid hv; clear hv; (try have bx1 := bx1.below hkk); clear hkk; have m0 : wn.heap.size ≠ b := (by have := hn.lt; omega); have m1 : wn.heap.size ≠ B := b1.ne; (try (have cx10 := bx1.c0; have cx11 := bx1.c1; have fx10 := bx1.f0; have fx11 := bx1.f1; have lx1 := bx1.lt; have nx1 := bx1.ne)))
          | (have bx1 := EB.new_of (n := wn.heap.size) hb rfl; have ex1 : wn.heap.size ≠ b := (by have := hn.lt; omega); have eB1 : wn.heap.size ≠ B := b1.ne; have hx1 : w.heap.size ≤ wn.heap.size := hb.size; have hb := hb.alloc hb.size (.cells #[.int .u64 0, .pointer none] 77); have b1 := b1.alloc (.cells #[.int .u64 0, .pointer none] 77); have hn := hn.below (bel0 _ (.cells #[.int .u64 0, .pointer none] 77)); (try have HA := Lib.hid (HA.out.alloc (.cells #[.int .u64 0, .pointer none] 77))); (try have HB := Lib.hid (HB.out.alloc (.cells #[.int .u64 0, .pointer none] 77))); (with_reducible refine Calls.mono (IR.out _ _ (HR.out.below hb)) ?_); rintro e wn ⟨v, rfl, hv, hkk⟩; obtain ⟨qB, rfl, _⟩ := hv.shape; have hb := hb.trans (hkk.mono hb.size); have b1 := b1.below hkk; have hn := hn.below hkk; (try have HA := Lib.hid (HA.out.below hkk)); have HB := Lib.hid hv; clear hv; (try have bx1 := bx1.below hkk); clear hkk; have m0 : wn.heap.size ≠ b := (by have := hn.lt; omega); have m1 : wn.heap.size ≠ B := b1.ne; (try (have cx10 := bx1.c0; have cx11 := bx1.c1; have fx10 := bx1.f0; have fx11 := bx1.f1; have lx1 := bx1.lt; have nx1 := bx1.ne))))
        | (go_at_call 77; first
          | ((with_reducible refine Calls.mono (HP.out _ _ _ HA.out HB.out) ?_); rintro e wn ⟨v, rfl, hv, hkk⟩; obtain ⟨qC, rfl, _⟩ := hv.shape_nd; have hb := hb.trans (hkk.mono hb.size); have b1 := b1.below hkk; have hn := hn.below hkk; have HC := Lib.hid hv; clear hv; (try have bx1 := bx1.below hkk); clear hkk; have m0 : wn.heap.size ≠ b := (by have := hn.lt; omega); have m1 : wn.heap.size ≠ B := b1.ne; (try (have cx10 := bx1.c0; have cx11 := bx1.c1; have fx10 := bx1.f0; have fx11 := bx1.f1; have lx1 := bx1.lt; have nx1 := bx1.ne)))
          | (have bx1 := EB.new_of (n := wn.heap.size) hb rfl; have ex1 : wn.heap.size ≠ b := (by have := hn.lt; omega); have eB1 : wn.heap.size ≠ B := b1.ne; have hx1 : w.heap.size ≤ wn.heap.size := hb.size; have hb := hb.alloc hb.size (.cells #[.int .u64 0, .pointer none] 77); have b1 := b1.alloc (.cells #[.int .u64 0, .pointer none] 77); have hn := hn.below (bel0 _ (.cells #[.int .u64 0, .pointer none] 77)); (try have HA := Lib.hid (HA.out.alloc (.cells #[.int .u64 0, .pointer none] 77))); (try have HB := Lib.hid (HB.out.alloc (.cells #[.int .u64 0, .pointer none] 77))); (with_reducible refine Calls.mono (HP.out _ _ _ HA.out HB.out) ?_); rintro e wn ⟨v, rfl, hv, hkk⟩; obtain ⟨qC, rfl, _⟩ := hv.shape_nd; have hb := hb.trans (hkk.mono hb.size); have b1 := b1.below hkk; have hn := hn.below hkk; have HC := Lib.hid hv; clear hv; (try have bx1 := bx1.below hkk); clear hkk; have m0 : wn.heap.size ≠ b := (by have := hn.lt; omega); have m1 : wn.heap.size ≠ B := b1.ne; (try (have cx10 := bx1.c0; have cx11 := bx1.c1; have fx10 := bx1.f0; have fx11 := bx1.f1; have lx1 := bx1.lt; have nx1 := bx1.ne)))))
      all_goals
        go_wp2_with fail
        go_meet
        with_reducible first
          | exact EvX.new hb HC.out b1
          | exact EvX.put hb HC.out b1 bx1 hx1 eB1
    case rest =>
      obtain ⟨X, m, px, rfl, b2, hX, hb, b1, hXB⟩ := hcut
      have HX := Lib.hid hX
      clear hX
      have c10 := b1.c0
      have c11 := b1.c1
      have f10 := b1.f0
      have f11 := b1.f1
      have c20 := b2.c0
      have c21 := b2.c1
      have hf := eput hb (R := B) (by omega) (.int .u64 (m : Int)) (.pointer px)
      go_wp2_with fail
      exact bodyPost_ret (v := .agg #[.int .u64 (m : Int), .pointer px]) (by simp [results, go_sem, *]) rfl ⟨_, rfl, HX.out.kp (K2.put b1 _ _), by first | exact hf | (rw [← hBB]; exact hf) | (subst hBB; exact hf)⟩
end Go.Proofs.Ytigkjmfkpmehlaa
