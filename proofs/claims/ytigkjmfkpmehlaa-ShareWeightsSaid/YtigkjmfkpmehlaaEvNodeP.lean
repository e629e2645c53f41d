/- event.node, right, Node; tree (of kinfolklaw03). (Printed by wip/ids/evprog2.py.) -/
import Derived.Test.YtigkjmfkpmehlaaEvProg
namespace Go.Proofs.Ytigkjmfkpmehlaa
open Go.RowKit

theorem K2.trans {a b c : World} (h : K2 a b) (k : K2 b c) : K2 a c := fun x cs hx => k x cs (h x cs hx)
theorem HN.new_at {w : World} {c : Nat} (n : Nat) (p : Option Addr) (m : Nat) (q : Option Addr) (h : w.heap.size = c) : HN (w.alloc (.cells #[.int .u64 (n : Int), .pointer p, .int .u64 (m : Int), .pointer q] 132)) c n p m q := by
  subst h
  exact HN.new w n p m q
theorem EB.same {w : World} {b n : Nat} {p : Option Addr} (h : EB w b n p) : w.setCell ⟨b, 0, none⟩ (.int .u64 (n : Int)) = w := same_cell h rfl
/-- What is seen of two that are not alike. -/
theorem Ev.alike_not {a b : Ev} {p q : Option Addr} (h : Ev.alike a b = false) (ha : (a.isL = true ∧ p = none) ∨ (a.isL = false ∧ ∃ c, p = some ⟨c, 0, none⟩)) (hb : (b.isL = true ∧ q = none) ∨ (b.isL = false ∧ ∃ c, q = some ⟨c, 0, none⟩)) :
    (∃ c, p = some ⟨c, 0, none⟩) ∨ (p = none ∧ ∃ c, q = some ⟨c, 0, none⟩) ∨ (p = none ∧ q = none ∧ ¬ ((a.base : Int) = (b.base : Int))) := by
  rcases ha with ⟨ha, hp⟩ | ⟨ha, hp⟩
  · rcases hb with ⟨hb, hq⟩ | ⟨hb, hq⟩
    · refine .inr (.inr ⟨hp, hq, ?_⟩)
      simp only [Ev.alike, ha, hb, Bool.true_and, beq_eq_false_iff_ne] at h
      omega
    · exact .inr (.inl ⟨hp, hq⟩)
  · exact .inl hp
set_option maxRecDepth 100000 in
set_option maxHeartbeats 3200000 in
theorem enode_any {k : Nat} {a b : Ev} {K : Int} {va vb : Value} (w : World) (hK : K = (k : Int)) (hk : k < 1000000000) (ha : EVV w a va) (hb : EVV w b vb) (ba : a.base < 1000000000) (bb : b.base < 1000000000) (hmin : min a.base b.base = 0) (hal : Ev.alike a b = false) :
    Calls Try.prog 89 #[.int .u64 K, va, vb] w fun x w' => ∃ v, x = .returned v ∧ EVV w' (.nd k a b) v ∧ Below w.heap.size w w' := by
  subst hK
  obtain ⟨pa, rfl, hpa⟩ := ha.shape
  obtain ⟨pb, rfl, hpb⟩ := hb.shape
  have hcase := Ev.alike_not hal hpa hpb
  have HT : Hid (∀ (w2 w4 : World) (c : Nat), Below w.heap.size w w2 → K2 w2 w4 → HN w4 c a.base pa b.base pb → EVV w4 (.nd k a b) (.agg #[.int .u64 (k : Int), .pointer (some ⟨c, 0, none⟩)])) := Lib.hid (by
    intro w2 w4 c hbx hk2 hn
    exact ⟨c, pa, pb, rfl, hn, (ha.below hbx).kp hk2, (hb.below hbx).kp hk2⟩)
  obtain ⟨A, hA⟩ : ∃ A, a.base = A := ⟨_, rfl⟩
  obtain ⟨B, hB⟩ : ∃ B, b.base = B := ⟨_, rfl⟩
  rw [hA] at hcase HT ba hmin ⊢
  rw [hB] at hcase HT bb hmin ⊢
  clear ha hb hpa hpb hal hA hB
  have hpar : A = 0 ∨ (B = 0 ∧ 0 < (A : Int)) := by omega
  clear hmin
  have s0 : IntKind.u64.wrap (k : Int) = (k : Int) := u64_in (by omega) (by omega)
  have s1 : IntKind.u64.wrap (A : Int) = (A : Int) := u64_in (by omega) (by omega)
  have s2 : IntKind.u64.wrap (B : Int) = (B : Int) := u64_in (by omega) (by omega)
  have s3 : (0 : Int) ≤ (B : Int) := by omega
  clear ba bb hk
  rcases hpar with rfl | ⟨rfl, hlt⟩
  · rcases hcase with ⟨p, rfl⟩ | ⟨rfl, q, rfl⟩ | ⟨rfl, rfl, hne⟩
    · have b1 := ((EB.new w 0 (some ⟨p, 0, none⟩)).alloc (.cells #[.int .u64 (B : Int), .pointer pb] 77)).alloc (.cells #[.int .u64 0, .pointer none] 77)
      have b2 := (EB.new (w.alloc (.cells #[.int .u64 0, .pointer (some ⟨p, 0, none⟩)] 77)) B pb).alloc (.cells #[.int .u64 0, .pointer none] 77)
      have b3 := EB.new ((w.alloc (.cells #[.int .u64 0, .pointer (some ⟨p, 0, none⟩)] 77)).alloc (.cells #[.int .u64 (B : Int), .pointer pb] 77)) 0 none
      have hb := ((bel0 w (.cells #[.int .u64 0, .pointer (some ⟨p, 0, none⟩)] 77)).alloc (by simp) (.cells #[.int .u64 (B : Int), .pointer pb] 77)).alloc (by simp; omega) (.cells #[.int .u64 0, .pointer none] 77)
      simp only [asz] at b2 b3
      go_enter Try.func89, Try.ntmps89
      go_upto_region 1 with (fail)
      generalize ((w.alloc (.cells #[.int .u64 0, .pointer (some ⟨p, 0, none⟩)] 77)).alloc (.cells #[.int .u64 (B : Int), .pointer pb] 77)).alloc (.cells #[.int .u64 0, .pointer none] 77) = w3 at *
      obtain ⟨X1, e1⟩ : ∃ X, w.heap.size = X := ⟨_, rfl⟩
      rw [e1] at b1 b2 b3 ⊢
      obtain ⟨X2, e2⟩ : ∃ X, X1 + 1 = X := ⟨_, rfl⟩
      rw [e2] at b2 b3 ⊢
      obtain ⟨X3, e3⟩ : ∃ X, X2 + 1 = X := ⟨_, rfl⟩
      rw [e3] at b3 ⊢
      have c10 : w3.cell? ⟨X1, 0, none⟩ = some (.int .u64 0) := b1.c0
      have c11 := b1.c1
      have c20 : w3.cell? ⟨X2, 0, none⟩ = some (.int .u64 (B : Int)) := b2.c0
      have c21 := b2.c1
      have f10 := b1.f0
      have f20 := b2.f0
      have f30 := b3.f0
      have f31 := b3.f1
      have g1 : w3.setCell ⟨X1, 0, none⟩ (.int .u64 0) = w3 := b1.same
      have g2 : w3.setCell ⟨X2, 0, none⟩ (.int .u64 (B : Int)) = w3 := b2.same
      have c30 : w3.cell? ⟨X3, 0, none⟩ = some (.int .u64 0) := b3.c0
      have c31 := b3.c1
      have n3 : X3 < w3.heap.size := b3.lt
      go_wp2_with fail
      have hf := eput hb (R := X3) (by omega) (.int .u64 (k : Int)) (.pointer (some ⟨w3.heap.size, 0, none⟩))
      have hk2 := K2.put b3 (.int .u64 (k : Int)) (.pointer (some ⟨w3.heap.size, 0, none⟩))
      have hsz : ((w3.setCell ⟨X3, 0, none⟩ (.int .u64 (k : Int))).setCell ⟨X3, 1, none⟩ (.pointer (some ⟨w3.heap.size, 0, none⟩))).heap.size = w3.heap.size := by rw [ssz, ssz]
      have hn := HN.new_at (w := (w3.setCell ⟨X3, 0, none⟩ (.int .u64 (k : Int))).setCell ⟨X3, 1, none⟩ (.pointer (some ⟨w3.heap.size, 0, none⟩))) 0 (some ⟨p, 0, none⟩) B pb hsz
      have hf := hf.alloc hf.size (.cells #[.int .u64 0, .pointer (some ⟨p, 0, none⟩), .int .u64 (B : Int), .pointer pb] 132)
      exact bodyPost_ret (v := .agg #[.int .u64 (k : Int), .pointer (some ⟨w3.heap.size, 0, none⟩)]) (by simp [results, go_sem, *]) rfl ⟨_, rfl, HT.out w3 _ _ hb (hk2.trans (K2.of (bel0 _ _))) hn, hf⟩
    · have b1 := ((EB.new w 0 none).alloc (.cells #[.int .u64 (B : Int), .pointer (some ⟨q, 0, none⟩)] 77)).alloc (.cells #[.int .u64 0, .pointer none] 77)
      have b2 := (EB.new (w.alloc (.cells #[.int .u64 0, .pointer none] 77)) B (some ⟨q, 0, none⟩)).alloc (.cells #[.int .u64 0, .pointer none] 77)
      have b3 := EB.new ((w.alloc (.cells #[.int .u64 0, .pointer none] 77)).alloc (.cells #[.int .u64 (B : Int), .pointer (some ⟨q, 0, none⟩)] 77)) 0 none
      have hb := ((bel0 w (.cells #[.int .u64 0, .pointer none] 77)).alloc (by simp) (.cells #[.int .u64 (B : Int), .pointer (some ⟨q, 0, none⟩)] 77)).alloc (by simp; omega) (.cells #[.int .u64 0, .pointer none] 77)
      simp only [asz] at b2 b3
      go_enter Try.func89, Try.ntmps89
      go_upto_region 1 with (fail)
      generalize ((w.alloc (.cells #[.int .u64 0, .pointer none] 77)).alloc (.cells #[.int .u64 (B : Int), .pointer (some ⟨q, 0, none⟩)] 77)).alloc (.cells #[.int .u64 0, .pointer none] 77) = w3 at *
      obtain ⟨X1, e1⟩ : ∃ X, w.heap.size = X := ⟨_, rfl⟩
      rw [e1] at b1 b2 b3 ⊢
      obtain ⟨X2, e2⟩ : ∃ X, X1 + 1 = X := ⟨_, rfl⟩
      rw [e2] at b2 b3 ⊢
      obtain ⟨X3, e3⟩ : ∃ X, X2 + 1 = X := ⟨_, rfl⟩
      rw [e3] at b3 ⊢
      have c10 : w3.cell? ⟨X1, 0, none⟩ = some (.int .u64 0) := b1.c0
      have c11 := b1.c1
      have c20 : w3.cell? ⟨X2, 0, none⟩ = some (.int .u64 (B : Int)) := b2.c0
      have c21 := b2.c1
      have f10 := b1.f0
      have f20 := b2.f0
      have f30 := b3.f0
      have f31 := b3.f1
      have g1 : w3.setCell ⟨X1, 0, none⟩ (.int .u64 0) = w3 := b1.same
      have g2 : w3.setCell ⟨X2, 0, none⟩ (.int .u64 (B : Int)) = w3 := b2.same
      have c30 : w3.cell? ⟨X3, 0, none⟩ = some (.int .u64 0) := b3.c0
      have c31 := b3.c1
      have n3 : X3 < w3.heap.size := b3.lt
      go_wp2_with fail
      have hf := eput hb (R := X3) (by omega) (.int .u64 (k : Int)) (.pointer (some ⟨w3.heap.size, 0, none⟩))
      have hk2 := K2.put b3 (.int .u64 (k : Int)) (.pointer (some ⟨w3.heap.size, 0, none⟩))
      have hsz : ((w3.setCell ⟨X3, 0, none⟩ (.int .u64 (k : Int))).setCell ⟨X3, 1, none⟩ (.pointer (some ⟨w3.heap.size, 0, none⟩))).heap.size = w3.heap.size := by rw [ssz, ssz]
      have hn := HN.new_at (w := (w3.setCell ⟨X3, 0, none⟩ (.int .u64 (k : Int))).setCell ⟨X3, 1, none⟩ (.pointer (some ⟨w3.heap.size, 0, none⟩))) 0 none B (some ⟨q, 0, none⟩) hsz
      have hf := hf.alloc hf.size (.cells #[.int .u64 0, .pointer none, .int .u64 (B : Int), .pointer (some ⟨q, 0, none⟩)] 132)
      exact bodyPost_ret (v := .agg #[.int .u64 (k : Int), .pointer (some ⟨w3.heap.size, 0, none⟩)]) (by simp [results, go_sem, *]) rfl ⟨_, rfl, HT.out w3 _ _ hb (hk2.trans (K2.of (bel0 _ _))) hn, hf⟩
    · have b1 := ((EB.new w 0 none).alloc (.cells #[.int .u64 (B : Int), .pointer none] 77)).alloc (.cells #[.int .u64 0, .pointer none] 77)
      have b2 := (EB.new (w.alloc (.cells #[.int .u64 0, .pointer none] 77)) B none).alloc (.cells #[.int .u64 0, .pointer none] 77)
      have b3 := EB.new ((w.alloc (.cells #[.int .u64 0, .pointer none] 77)).alloc (.cells #[.int .u64 (B : Int), .pointer none] 77)) 0 none
      have hb := ((bel0 w (.cells #[.int .u64 0, .pointer none] 77)).alloc (by simp) (.cells #[.int .u64 (B : Int), .pointer none] 77)).alloc (by simp; omega) (.cells #[.int .u64 0, .pointer none] 77)
      simp only [asz] at b2 b3
      go_enter Try.func89, Try.ntmps89
      go_upto_region 1 with (fail)
      generalize ((w.alloc (.cells #[.int .u64 0, .pointer none] 77)).alloc (.cells #[.int .u64 (B : Int), .pointer none] 77)).alloc (.cells #[.int .u64 0, .pointer none] 77) = w3 at *
      obtain ⟨X1, e1⟩ : ∃ X, w.heap.size = X := ⟨_, rfl⟩
      rw [e1] at b1 b2 b3 ⊢
      obtain ⟨X2, e2⟩ : ∃ X, X1 + 1 = X := ⟨_, rfl⟩
      rw [e2] at b2 b3 ⊢
      obtain ⟨X3, e3⟩ : ∃ X, X2 + 1 = X := ⟨_, rfl⟩
      rw [e3] at b3 ⊢
      have c10 : w3.cell? ⟨X1, 0, none⟩ = some (.int .u64 0) := b1.c0
      have c11 := b1.c1
      have c20 : w3.cell? ⟨X2, 0, none⟩ = some (.int .u64 (B : Int)) := b2.c0
      have c21 := b2.c1
      have f10 := b1.f0
      have f20 := b2.f0
      have f30 := b3.f0
      have f31 := b3.f1
      have g1 : w3.setCell ⟨X1, 0, none⟩ (.int .u64 0) = w3 := b1.same
      have g2 : w3.setCell ⟨X2, 0, none⟩ (.int .u64 (B : Int)) = w3 := b2.same
      have c30 : w3.cell? ⟨X3, 0, none⟩ = some (.int .u64 0) := b3.c0
      have c31 := b3.c1
      have n3 : X3 < w3.heap.size := b3.lt
      go_wp2_with fail
      have hf := eput hb (R := X3) (by omega) (.int .u64 (k : Int)) (.pointer (some ⟨w3.heap.size, 0, none⟩))
      have hk2 := K2.put b3 (.int .u64 (k : Int)) (.pointer (some ⟨w3.heap.size, 0, none⟩))
      have hsz : ((w3.setCell ⟨X3, 0, none⟩ (.int .u64 (k : Int))).setCell ⟨X3, 1, none⟩ (.pointer (some ⟨w3.heap.size, 0, none⟩))).heap.size = w3.heap.size := by rw [ssz, ssz]
      have hn := HN.new_at (w := (w3.setCell ⟨X3, 0, none⟩ (.int .u64 (k : Int))).setCell ⟨X3, 1, none⟩ (.pointer (some ⟨w3.heap.size, 0, none⟩))) 0 none B none hsz
      have hf := hf.alloc hf.size (.cells #[.int .u64 0, .pointer none, .int .u64 (B : Int), .pointer none] 132)
      exact bodyPost_ret (v := .agg #[.int .u64 (k : Int), .pointer (some ⟨w3.heap.size, 0, none⟩)]) (by simp [results, go_sem, *]) rfl ⟨_, rfl, HT.out w3 _ _ hb (hk2.trans (K2.of (bel0 _ _))) hn, hf⟩
  · rcases hcase with ⟨p, rfl⟩ | ⟨rfl, q, rfl⟩ | ⟨rfl, rfl, hne⟩
    · have b1 := ((EB.new w A (some ⟨p, 0, none⟩)).alloc (.cells #[.int .u64 0, .pointer pb] 77)).alloc (.cells #[.int .u64 0, .pointer none] 77)
      have b2 := (EB.new (w.alloc (.cells #[.int .u64 (A : Int), .pointer (some ⟨p, 0, none⟩)] 77)) 0 pb).alloc (.cells #[.int .u64 0, .pointer none] 77)
      have b3 := EB.new ((w.alloc (.cells #[.int .u64 (A : Int), .pointer (some ⟨p, 0, none⟩)] 77)).alloc (.cells #[.int .u64 0, .pointer pb] 77)) 0 none
      have hb := ((bel0 w (.cells #[.int .u64 (A : Int), .pointer (some ⟨p, 0, none⟩)] 77)).alloc (by simp) (.cells #[.int .u64 0, .pointer pb] 77)).alloc (by simp; omega) (.cells #[.int .u64 0, .pointer none] 77)
      simp only [asz] at b2 b3
      go_enter Try.func89, Try.ntmps89
      go_upto_region 1 with (fail)
      generalize ((w.alloc (.cells #[.int .u64 (A : Int), .pointer (some ⟨p, 0, none⟩)] 77)).alloc (.cells #[.int .u64 0, .pointer pb] 77)).alloc (.cells #[.int .u64 0, .pointer none] 77) = w3 at *
      obtain ⟨X1, e1⟩ : ∃ X, w.heap.size = X := ⟨_, rfl⟩
      rw [e1] at b1 b2 b3 ⊢
      obtain ⟨X2, e2⟩ : ∃ X, X1 + 1 = X := ⟨_, rfl⟩
      rw [e2] at b2 b3 ⊢
      obtain ⟨X3, e3⟩ : ∃ X, X2 + 1 = X := ⟨_, rfl⟩
      rw [e3] at b3 ⊢
      have c10 : w3.cell? ⟨X1, 0, none⟩ = some (.int .u64 (A : Int)) := b1.c0
      have c11 := b1.c1
      have c20 : w3.cell? ⟨X2, 0, none⟩ = some (.int .u64 0) := b2.c0
      have c21 := b2.c1
      have f10 := b1.f0
      have f20 := b2.f0
      have f30 := b3.f0
      have f31 := b3.f1
      have g1 : w3.setCell ⟨X1, 0, none⟩ (.int .u64 (A : Int)) = w3 := b1.same
      have g2 : w3.setCell ⟨X2, 0, none⟩ (.int .u64 0) = w3 := b2.same
      have c30 : w3.cell? ⟨X3, 0, none⟩ = some (.int .u64 0) := b3.c0
      have c31 := b3.c1
      have n3 : X3 < w3.heap.size := b3.lt
      go_wp2_with fail
      have hf := eput hb (R := X3) (by omega) (.int .u64 (k : Int)) (.pointer (some ⟨w3.heap.size, 0, none⟩))
      have hk2 := K2.put b3 (.int .u64 (k : Int)) (.pointer (some ⟨w3.heap.size, 0, none⟩))
      have hsz : ((w3.setCell ⟨X3, 0, none⟩ (.int .u64 (k : Int))).setCell ⟨X3, 1, none⟩ (.pointer (some ⟨w3.heap.size, 0, none⟩))).heap.size = w3.heap.size := by rw [ssz, ssz]
      have hn := HN.new_at (w := (w3.setCell ⟨X3, 0, none⟩ (.int .u64 (k : Int))).setCell ⟨X3, 1, none⟩ (.pointer (some ⟨w3.heap.size, 0, none⟩))) A (some ⟨p, 0, none⟩) 0 pb hsz
      have hf := hf.alloc hf.size (.cells #[.int .u64 (A : Int), .pointer (some ⟨p, 0, none⟩), .int .u64 0, .pointer pb] 132)
      exact bodyPost_ret (v := .agg #[.int .u64 (k : Int), .pointer (some ⟨w3.heap.size, 0, none⟩)]) (by simp [results, go_sem, *]) rfl ⟨_, rfl, HT.out w3 _ _ hb (hk2.trans (K2.of (bel0 _ _))) hn, hf⟩
    · have b1 := ((EB.new w A none).alloc (.cells #[.int .u64 0, .pointer (some ⟨q, 0, none⟩)] 77)).alloc (.cells #[.int .u64 0, .pointer none] 77)
      have b2 := (EB.new (w.alloc (.cells #[.int .u64 (A : Int), .pointer none] 77)) 0 (some ⟨q, 0, none⟩)).alloc (.cells #[.int .u64 0, .pointer none] 77)
      have b3 := EB.new ((w.alloc (.cells #[.int .u64 (A : Int), .pointer none] 77)).alloc (.cells #[.int .u64 0, .pointer (some ⟨q, 0, none⟩)] 77)) 0 none
      have hb := ((bel0 w (.cells #[.int .u64 (A : Int), .pointer none] 77)).alloc (by simp) (.cells #[.int .u64 0, .pointer (some ⟨q, 0, none⟩)] 77)).alloc (by simp; omega) (.cells #[.int .u64 0, .pointer none] 77)
      simp only [asz] at b2 b3
      go_enter Try.func89, Try.ntmps89
      go_upto_region 1 with (fail)
      generalize ((w.alloc (.cells #[.int .u64 (A : Int), .pointer none] 77)).alloc (.cells #[.int .u64 0, .pointer (some ⟨q, 0, none⟩)] 77)).alloc (.cells #[.int .u64 0, .pointer none] 77) = w3 at *
      obtain ⟨X1, e1⟩ : ∃ X, w.heap.size = X := ⟨_, rfl⟩
      rw [e1] at b1 b2 b3 ⊢
      obtain ⟨X2, e2⟩ : ∃ X, X1 + 1 = X := ⟨_, rfl⟩
      rw [e2] at b2 b3 ⊢
      obtain ⟨X3, e3⟩ : ∃ X, X2 + 1 = X := ⟨_, rfl⟩
      rw [e3] at b3 ⊢
      have c10 : w3.cell? ⟨X1, 0, none⟩ = some (.int .u64 (A : Int)) := b1.c0
      have c11 := b1.c1
      have c20 : w3.cell? ⟨X2, 0, none⟩ = some (.int .u64 0) := b2.c0
      have c21 := b2.c1
      have f10 := b1.f0
      have f20 := b2.f0
      have f30 := b3.f0
      have f31 := b3.f1
      have g1 : w3.setCell ⟨X1, 0, none⟩ (.int .u64 (A : Int)) = w3 := b1.same
      have g2 : w3.setCell ⟨X2, 0, none⟩ (.int .u64 0) = w3 := b2.same
      have c30 : w3.cell? ⟨X3, 0, none⟩ = some (.int .u64 0) := b3.c0
      have c31 := b3.c1
      have n3 : X3 < w3.heap.size := b3.lt
      go_wp2_with fail
      have hf := eput hb (R := X3) (by omega) (.int .u64 (k : Int)) (.pointer (some ⟨w3.heap.size, 0, none⟩))
      have hk2 := K2.put b3 (.int .u64 (k : Int)) (.pointer (some ⟨w3.heap.size, 0, none⟩))
      have hsz : ((w3.setCell ⟨X3, 0, none⟩ (.int .u64 (k : Int))).setCell ⟨X3, 1, none⟩ (.pointer (some ⟨w3.heap.size, 0, none⟩))).heap.size = w3.heap.size := by rw [ssz, ssz]
      have hn := HN.new_at (w := (w3.setCell ⟨X3, 0, none⟩ (.int .u64 (k : Int))).setCell ⟨X3, 1, none⟩ (.pointer (some ⟨w3.heap.size, 0, none⟩))) A none 0 (some ⟨q, 0, none⟩) hsz
      have hf := hf.alloc hf.size (.cells #[.int .u64 (A : Int), .pointer none, .int .u64 0, .pointer (some ⟨q, 0, none⟩)] 132)
      exact bodyPost_ret (v := .agg #[.int .u64 (k : Int), .pointer (some ⟨w3.heap.size, 0, none⟩)]) (by simp [results, go_sem, *]) rfl ⟨_, rfl, HT.out w3 _ _ hb (hk2.trans (K2.of (bel0 _ _))) hn, hf⟩
    · have b1 := ((EB.new w A none).alloc (.cells #[.int .u64 0, .pointer none] 77)).alloc (.cells #[.int .u64 0, .pointer none] 77)
      have b2 := (EB.new (w.alloc (.cells #[.int .u64 (A : Int), .pointer none] 77)) 0 none).alloc (.cells #[.int .u64 0, .pointer none] 77)
      have b3 := EB.new ((w.alloc (.cells #[.int .u64 (A : Int), .pointer none] 77)).alloc (.cells #[.int .u64 0, .pointer none] 77)) 0 none
      have hb := ((bel0 w (.cells #[.int .u64 (A : Int), .pointer none] 77)).alloc (by simp) (.cells #[.int .u64 0, .pointer none] 77)).alloc (by simp; omega) (.cells #[.int .u64 0, .pointer none] 77)
      simp only [asz] at b2 b3
      go_enter Try.func89, Try.ntmps89
      go_upto_region 1 with (fail)
      generalize ((w.alloc (.cells #[.int .u64 (A : Int), .pointer none] 77)).alloc (.cells #[.int .u64 0, .pointer none] 77)).alloc (.cells #[.int .u64 0, .pointer none] 77) = w3 at *
      obtain ⟨X1, e1⟩ : ∃ X, w.heap.size = X := ⟨_, rfl⟩
      rw [e1] at b1 b2 b3 ⊢
      obtain ⟨X2, e2⟩ : ∃ X, X1 + 1 = X := ⟨_, rfl⟩
      rw [e2] at b2 b3 ⊢
      obtain ⟨X3, e3⟩ : ∃ X, X2 + 1 = X := ⟨_, rfl⟩
      rw [e3] at b3 ⊢
      have c10 : w3.cell? ⟨X1, 0, none⟩ = some (.int .u64 (A : Int)) := b1.c0
      have c11 := b1.c1
      have c20 : w3.cell? ⟨X2, 0, none⟩ = some (.int .u64 0) := b2.c0
      have c21 := b2.c1
      have f10 := b1.f0
      have f20 := b2.f0
      have f30 := b3.f0
      have f31 := b3.f1
      have g1 : w3.setCell ⟨X1, 0, none⟩ (.int .u64 (A : Int)) = w3 := b1.same
      have g2 : w3.setCell ⟨X2, 0, none⟩ (.int .u64 0) = w3 := b2.same
      have c30 : w3.cell? ⟨X3, 0, none⟩ = some (.int .u64 0) := b3.c0
      have c31 := b3.c1
      have n3 : X3 < w3.heap.size := b3.lt
      go_wp2_with fail
      have hf := eput hb (R := X3) (by omega) (.int .u64 (k : Int)) (.pointer (some ⟨w3.heap.size, 0, none⟩))
      have hk2 := K2.put b3 (.int .u64 (k : Int)) (.pointer (some ⟨w3.heap.size, 0, none⟩))
      have hsz : ((w3.setCell ⟨X3, 0, none⟩ (.int .u64 (k : Int))).setCell ⟨X3, 1, none⟩ (.pointer (some ⟨w3.heap.size, 0, none⟩))).heap.size = w3.heap.size := by rw [ssz, ssz]
      have hn := HN.new_at (w := (w3.setCell ⟨X3, 0, none⟩ (.int .u64 (k : Int))).setCell ⟨X3, 1, none⟩ (.pointer (some ⟨w3.heap.size, 0, none⟩))) A none 0 none hsz
      have hf := hf.alloc hf.size (.cells #[.int .u64 (A : Int), .pointer none, .int .u64 0, .pointer none] 132)
      exact bodyPost_ret (v := .agg #[.int .u64 (k : Int), .pointer (some ⟨w3.heap.size, 0, none⟩)]) (by simp [results, go_sem, *]) rfl ⟨_, rfl, HT.out w3 _ _ hb (hk2.trans (K2.of (bel0 _ _))) hn, hf⟩
end Go.Proofs.Ytigkjmfkpmehlaa
