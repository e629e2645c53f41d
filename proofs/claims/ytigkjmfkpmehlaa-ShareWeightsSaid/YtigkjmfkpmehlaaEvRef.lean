/- kinfolkref02: what a pointer to its Event stands for; Leaf, Min, Node, Make, Add, Left, Right. -/
import Derived.Test.YtigkjmfkpmehlaaEvTree
import Derived.BigQuiet
import Derived.Deep.QuietTactic
namespace Go.Proofs.Ytigkjmfkpmehlaa
open Go.RowKit

/-- A block of the document's Event. -/
def EN (w : World) (b n : Nat) (pl pr : Option Addr) : Prop := w.heap[b]? = some (.cells #[.int .u64 (n : Int), .pointer pl, .pointer pr] 109 (0, 0))
theorem EN.c0 {w : World} {b n : Nat} {pl pr : Option Addr} (h : EN w b n pl pr) : w.cell? ⟨b, 0, none⟩ = some (.int .u64 (n : Int)) := blk_cell h 0
theorem EN.c1 {w : World} {b n : Nat} {pl pr : Option Addr} (h : EN w b n pl pr) : w.cell? ⟨b, 1, none⟩ = some (.pointer pl) := blk_cell h 1
theorem EN.c2 {w : World} {b n : Nat} {pl pr : Option Addr} (h : EN w b n pl pr) : w.cell? ⟨b, 2, none⟩ = some (.pointer pr) := blk_cell h 2
theorem EN.lt {w : World} {b n : Nat} {pl pr : Option Addr} (h : EN w b n pl pr) : b < w.heap.size := blk_lt h
theorem EN.below {w w' : World} {b n : Nat} {pl pr : Option Addr} (h : EN w b n pl pr) (hb : Below w.heap.size w w') : EN w' b n pl pr := (hb.block b (blk_lt h)).trans h
theorem EN.drew {w : World} {b n : Nat} {pl pr : Option Addr} (h : EN w b n pl pr) : EN w.drew b n pl pr := h
theorem EN.alloc {w : World} {b n : Nat} {pl pr : Option Addr} (h : EN w b n pl pr) (o : Obj) : EN (w.alloc o) b n pl pr := h.below (bel0 w o)
theorem EN.new (w : World) (n : Nat) (pl pr : Option Addr) : EN (w.alloc (.cells #[.int .u64 (n : Int), .pointer pl, .pointer pr] 109)) w.heap.size n pl pr := heap_alloc_new w _
theorem EN.new_at {w : World} {k : Nat} (n : Nat) (pl pr : Option Addr) (h : w.heap.size = k) : EN (w.alloc (.cells #[.int .u64 (n : Int), .pointer pl, .pointer pr] 109)) k n pl pr := by subst h; exact EN.new w n pl pr
/-- What a pointer to the document's Event stands for. -/
def REV (w : World) : Ev → Value → Prop
  | .lf n, v => ∃ b, v = .pointer (some ⟨b, 0, none⟩) ∧ EN w b n none none
  | .nd n x y, v => ∃ b p q, v = .pointer (some ⟨b, 0, none⟩) ∧ EN w b n (some ⟨p, 0, none⟩) (some ⟨q, 0, none⟩) ∧ REV w x (.pointer (some ⟨p, 0, none⟩)) ∧ REV w y (.pointer (some ⟨q, 0, none⟩))
theorem REV.below {w w' : World} (hb : Below w.heap.size w w') : ∀ {e : Ev} {v : Value}, REV w e v → REV w' e v
  | .lf _, _, ⟨b, hv, hn⟩ => ⟨b, hv, hn.below hb⟩
  | .nd _ _ _, _, ⟨b, p, q, hv, hn, hx, hy⟩ => ⟨b, p, q, hv, hn.below hb, REV.below hb hx, REV.below hb hy⟩
theorem REV.alloc {w : World} {e : Ev} {v : Value} (h : REV w e v) (o : Obj) : REV (w.alloc o) e v := h.below (bel0 w o)
theorem REV.drew {w : World} {e : Ev} {v : Value} (h : REV w e v) : REV w.drew e v := REV.below (w := w) (w' := w.drew) (bdrew (Below.refl _ _)) h
/-- What hangs on the two pointers of a block. -/
def Hang (w : World) : Ev → Option Addr → Option Addr → Prop
  | .lf _, pl, pr => pl = none ∧ pr = none
  | .nd _ x y, pl, pr => ∃ p q, pl = some ⟨p, 0, none⟩ ∧ pr = some ⟨q, 0, none⟩ ∧ REV w x (.pointer (some ⟨p, 0, none⟩)) ∧ REV w y (.pointer (some ⟨q, 0, none⟩))
theorem Hang.below {w w' : World} (hb : Below w.heap.size w w') {e : Ev} {pl pr : Option Addr} (h : Hang w e pl pr) : Hang w' e pl pr := by
  cases e with
  | lf n => exact h
  | nd n x y =>
    obtain ⟨p, q, h1, h2, hx, hy⟩ := h
    exact ⟨p, q, h1, h2, hx.below hb, hy.below hb⟩
theorem REV.view {w : World} {e : Ev} {v : Value} (h : REV w e v) : ∃ b pl pr, v = .pointer (some ⟨b, 0, none⟩) ∧ EN w b e.base pl pr ∧ Hang w e pl pr := by
  cases e with
  | lf n =>
    obtain ⟨b, hv, hn⟩ := h
    exact ⟨b, none, none, hv, hn, rfl, rfl⟩
  | nd n x y =>
    obtain ⟨b, p, q, hv, hn, hx, hy⟩ := h
    exact ⟨b, _, _, hv, hn, p, q, rfl, rfl, hx, hy⟩
theorem REV.of_add {w : World} {e : Ev} {b k : Nat} {pl pr : Option Addr} (h : Hang w e pl pr) (hn : EN w b (e.base + k) pl pr) : REV w (e.add k) (.pointer (some ⟨b, 0, none⟩)) := by
  cases e with
  | lf n =>
    obtain ⟨rfl, rfl⟩ := h
    exact ⟨b, rfl, hn⟩
  | nd n x y =>
    obtain ⟨p, q, rfl, rfl, hx, hy⟩ := h
    exact ⟨b, p, q, rfl, hn, hx, hy⟩
theorem REV.of_sub {w : World} {e : Ev} {b k : Nat} {pl pr : Option Addr} (h : Hang w e pl pr) (hn : EN w b (e.base - k) pl pr) : REV w (e.sub k) (.pointer (some ⟨b, 0, none⟩)) := by
  cases e with
  | lf n =>
    obtain ⟨rfl, rfl⟩ := h
    exact ⟨b, rfl, hn⟩
  | nd n x y =>
    obtain ⟨p, q, rfl, rfl, hx, hy⟩ := h
    exact ⟨b, p, q, rfl, hn, hx, hy⟩
theorem rleaf_any {n : Nat} {k : Int} (w : World) (hk : k = (n : Int)) : Calls Try.prog 74 #[.int .u64 k] w fun e w' => ∃ v, e = .returned v ∧ REV w' (.lf n) v ∧ Below w.heap.size w w' := by
  subst hk
  go_enter Try.func74, Try.ntmps74
  go_wp2_with fail
  go_ret
  exact ⟨_, rfl, ⟨_, rfl, EN.new w n none none⟩, bel0 _ _⟩
theorem u64_in {a : Int} (h0 : 0 ≤ a) (h1 : a < 2 ^ 64) : IntKind.u64.wrap a = a := by rw [IntKind.wrap_u64]; omega
theorem ret_u64 {a b : Int} (h : a = b) : Ending.returned (.int .u64 a) = .returned (.int .u64 b) := by rw [h]
theorem Ev.top_nd {n : Nat} {x y : Ev} : (Ev.nd n x y).top = n + max x.top y.top := rfl
set_option maxRecDepth 100000 in
set_option maxHeartbeats 1600000 in
theorem rmin_any : ∀ {e : Ev} {v : Value} (w : World), REV w e v → e.nf = true → e.top < 1000000000 → Calls Try.prog 88 #[v] w fun x w' => x = .returned (.int .u64 (e.base : Int)) ∧ Below w.heap.size w w'
  | .lf n, v, w, h, _, _ => by
    obtain ⟨b, rfl, hn⟩ := h
    have c0 := hn.c0
    have c1 := hn.c1
    simp only [Ev.base]
    go_enter Try.func88, Try.ntmps88
    go_wp2_with fail
    go_ret
    exact ⟨rfl, Below.refl _ _⟩
  | .nd n x y, v, w, h, hnf, hlt => by
    obtain ⟨n1, n2, hmin, _⟩ := Ev.nf_n hnf
    have hmin' : min x.base y.base = 0 := hmin
    rw [Ev.top_nd] at hlt
    have bx := x.base_top
    have by' := y.base_top
    have il := fun (vx : Value) (wx : World) hx => rmin_any (e := x) (v := vx) wx hx n1 (by omega)
    have ir := fun (vx : Value) (wx : World) hx => rmin_any (e := y) (v := vx) wx hx n2 (by omega)
    have IL := Lib.hid il
    have IR := Lib.hid ir
    clear il ir
    obtain ⟨b, p, q, rfl, hn, hx, hy⟩ := h
    have HL := Lib.hid hx
    have HR := Lib.hid hy
    have hn' : (n : Int) < 1000000000 := by omega
    have hx' : (x.base : Int) < 1000000000 := by omega
    have hy' : (y.base : Int) < 1000000000 := by omega
    clear hx hy hmin hnf n1 n2 bx by' hlt
    simp only [Ev.base]
    obtain ⟨A, hA⟩ : ∃ A, x.base = A := ⟨_, rfl⟩
    obtain ⟨B, hB⟩ : ∃ B, y.base = B := ⟨_, rfl⟩
    rw [hA] at IL hx' hmin'
    rw [hB] at IR hy' hmin'
    clear hA hB
    have hpar : (Hid (A = 0) ∧ (A : Int) < (B : Int)) ∨ (Hid (B = 0) ∧ ¬ (A : Int) < (B : Int)) := by
      by_cases h : A < B
      · exact .inl ⟨Lib.hid (by omega), by omega⟩
      · exact .inr ⟨Lib.hid (by omega), by omega⟩
    clear hmin'
    have c0 := hn.c0
    have c1 := hn.c1
    have hb := bdrew (Below.refl w.heap.size w)
    rcases hpar with ⟨HZ, hlt⟩ | ⟨HZ, hlt⟩
    all_goals
      go_enter Try.func88, Try.ntmps88
      go_upto_region 3 with (fail)
      have hn := hn.drew
      go_region_held3 (fun w' => w'.cell? ⟨b, 1, none⟩ = some (.pointer (some ⟨p, 0, none⟩)) ∧ w'.cell? ⟨b, 2, none⟩ = some (.pointer (some ⟨q, 0, none⟩))) (exact ⟨hn.c1, hn.c2⟩)
        (first
          | (go_at_call_of 88 (Value.pointer (some ⟨p, 0, none⟩)); (with_reducible refine Calls.mono (IL.out _ _ (HL.out.below hb)) ?_); rintro e wn ⟨rfl, hk⟩; have hb := hb.trans (hk.mono hb.size); have hn := hn.below hk; clear hk)
          | (go_at_call_of 88 (Value.pointer (some ⟨q, 0, none⟩)); (with_reducible refine Calls.mono (IR.out _ _ (HR.out.below hb)) ?_); rintro e wn ⟨rfl, hk⟩; have hb := hb.trans (hk.mono hb.size); have hn := hn.below hk; clear hk))
      have c0 := hn.c0
      have s1 : IntKind.u64.wrap ((n : Int) + (A : Int)) = (n : Int) + (A : Int) := u64_in (by omega) (by omega)
      have s2 : IntKind.u64.wrap ((n : Int) + (B : Int)) = (n : Int) + (B : Int) := u64_in (by omega) (by omega)
      clear hn' hx' hy'
      go_wp2_with fail
      go_ret
      exact ⟨ret_u64 (by have := HZ.out; omega), hb⟩
theorem Ev.alike_yes {a b : Ev} (h : Ev.alike a b = true) : ∃ n, a = .lf n ∧ b = .lf n := by
  cases a with
  | lf n =>
    cases b with
    | lf m =>
      simp only [Ev.alike, Ev.isL, Ev.base, Bool.true_and, beq_iff_eq] at h
      subst h
      exact ⟨n, rfl, rfl⟩
    | nd m x y => simp [Ev.alike, Ev.isL] at h
  | nd n x y => simp [Ev.alike, Ev.isL] at h
set_option maxRecDepth 100000 in
set_option maxHeartbeats 1600000 in
theorem rnode_leaf {k n : Nat} {K : Int} {va vb : Value} (w : World) (hK : K = (k : Int)) (ha : REV w (.lf n) va) (hb : REV w (.lf n) vb) (hk : k + n < 1000000000) : Calls Try.prog 75 #[.int .u64 K, va, vb] w fun x w' => ∃ v, x = .returned v ∧ REV w' (.lf (k + n)) v ∧ Below w.heap.size w w' := by
  subst hK
  obtain ⟨b, rfl, hn⟩ := ha
  obtain ⟨c, rfl, hm⟩ := hb
  have b0 := hn.c0
  have b1 := hn.c1
  have c0 := hm.c0
  have c1 := hm.c1
  have s1 : IntKind.u64.wrap ((k : Int) + (n : Int)) = (k : Int) + (n : Int) := u64_in (by omega) (by omega)
  have HL := Lib.hid (fun (wx : World) => rleaf_any (n := k + n) (k := (k : Int) + (n : Int)) wx (by omega))
  clear hn hm hk
  go_enter Try.func75, Try.ntmps75
  go_upto_region 1 with (fail)
  go_quiet (fail)
  go_wp2_with (go_at_call 74; (with_reducible refine Calls.mono (HL.out _) ?_); rintro e wn ⟨v, rfl, hv, hkk⟩)
  go_ret
  exact ⟨_, rfl, hv, (bdrewN (Below.refl _ _) _).trans (hkk.mono (Nat.le_refl _))⟩
/-- What the walk sees of two that are not alike: one is a node, or they differ. -/
theorem Ev.alike_no {w : World} {a b : Ev} {pl pr ql qr : Option Addr} (h : Ev.alike a b = false) (ha : Hang w a pl pr) (hb : Hang w b ql qr) :
    (∃ p, pl = some ⟨p, 0, none⟩) ∨ (pl = none ∧ ∃ q, ql = some ⟨q, 0, none⟩) ∨ (pl = none ∧ ql = none ∧ ¬ ((a.base : Int) = (b.base : Int))) := by
  cases a with
  | nd n x y =>
    obtain ⟨p, _, hp, _⟩ := ha
    exact .inl ⟨p, hp⟩
  | lf n =>
    cases b with
    | nd m x y =>
      obtain ⟨q, _, hq, _⟩ := hb
      exact .inr (.inl ⟨ha.1, q, hq⟩)
    | lf m =>
      simp only [Ev.alike, Ev.isL, Ev.base, Bool.true_and, beq_eq_false_iff_ne] at h
      exact .inr (.inr ⟨ha.1, hb.1, by simp only [Ev.base]; omega⟩)
end Go.Proofs.Ytigkjmfkpmehlaa
