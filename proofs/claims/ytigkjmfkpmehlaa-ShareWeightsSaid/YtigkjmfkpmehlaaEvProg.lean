/- The package event: what its values stand for; Base, IsLeaf, Left, Right, Depth, Max, Leaf, node, right, Node. (Printed by wip/ids/evprog.py.) -/
import Derived.Test.YtigkjmfkpmehlaaEvRef
namespace Go.Proofs.Ytigkjmfkpmehlaa
open Go.RowKit

/-- A box of an Event. -/
def EB (w : World) (b n : Nat) (p : Option Addr) : Prop := w.heap[b]? = some (.cells #[.int .u64 (n : Int), .pointer p] 77 (0, 0))
theorem EB.c0 {w : World} {b n : Nat} {p : Option Addr} (h : EB w b n p) : w.cell? ⟨b, 0, none⟩ = some (.int .u64 (n : Int)) := blk_cell h 0
theorem EB.c1 {w : World} {b n : Nat} {p : Option Addr} (h : EB w b n p) : w.cell? ⟨b, 1, none⟩ = some (.pointer p) := blk_cell h 1
theorem EB.f0 {w : World} {b n : Nat} {p : Option Addr} (h : EB w b n p) : w.frozen? ⟨b, 0, none⟩ = false := blk_frozen h 0
theorem EB.f1 {w : World} {b n : Nat} {p : Option Addr} (h : EB w b n p) : w.frozen? ⟨b, 1, none⟩ = false := blk_frozen h 1
theorem EB.lt {w : World} {b n : Nat} {p : Option Addr} (h : EB w b n p) : b < w.heap.size := blk_lt h
theorem EB.below {w w' : World} {b n : Nat} {p : Option Addr} (h : EB w b n p) (hb : Below w.heap.size w w') : EB w' b n p := (hb.block b (blk_lt h)).trans h
theorem EB.drew {w : World} {b n : Nat} {p : Option Addr} (h : EB w b n p) : EB w.drew b n p := h
theorem EB.alloc {w : World} {b n : Nat} {p : Option Addr} (h : EB w b n p) (o : Obj) : EB (w.alloc o) b n p := h.below (bel0 w o)
theorem EB.new (w : World) (n : Nat) (p : Option Addr) : EB (w.alloc (.cells #[.int .u64 (n : Int), .pointer p] 77)) w.heap.size n p := heap_alloc_new w _
theorem same_cell {w : World} {b o : Nat} {cs : Array Value} {ty : TypeId} {v : Value} (h : w.heap[b]? = some (.cells cs ty (0, 0))) (hv : cs[o]? = some v) : w.setCell ⟨b, o, none⟩ v = w := by
  obtain ⟨hlt, he⟩ := Array.getElem?_eq_some_iff.1 h
  obtain ⟨ho, hve⟩ := Array.getElem?_eq_some_iff.1 hv
  have e : (w.setCell ⟨b, o, none⟩ v).heap = w.heap := by
    simp only [World.setCell]
    apply Array.ext
    · simp
    · intro i h1 h2
      rw [Array.getElem_modify]
      split
      · rename_i hi
        subst hi
        rw [he]
        simp only [Option.isSome_none, Bool.false_eq_true, if_false]
        congr 1
        apply Array.ext
        · simp
        · intro j k1 k2
          rw [Array.getElem_setIfInBounds]
          split
          · rename_i hj
            subst hj
            exact hve.symm
          · rfl
      · rfl
  show ({ w with heap := (w.setCell ⟨b, o, none⟩ v).heap } : World) = w
  rw [e]
/-- The blocks of halves stay as they are. -/
def K2 (w w' : World) : Prop := ∀ (b : Nat) (cs : Array Value), w.heap[b]? = some (.cells cs 132 (0, 0)) → w'.heap[b]? = some (.cells cs 132 (0, 0))
theorem K2.of {w w' : World} (h : Below w.heap.size w w') : K2 w w' := fun b _ hx => (h.block b (blk_lt hx)).trans hx
theorem K2.put {w : World} {C n : Nat} {p : Option Addr} (h : EB w C n p) (x : Value) (y : Value) : K2 w ((w.setCell ⟨C, 0, none⟩ x).setCell ⟨C, 1, none⟩ y) := fun b cs hb => by
  have hne : b ≠ C := fun e => by
    subst e
    unfold EB at h
    rw [h] at hb
    simp at hb
  exact (Below.heap_setCell _ _ _ _ hne).trans ((Below.heap_setCell _ _ _ _ hne).trans hb)
theorem eput {B : Nat} {a w : World} {R : Nat} (h : Below B a w) (hR : B ≤ R) (x y : Value) : Below B a ((w.setCell ⟨R, 0, none⟩ x).setCell ⟨R, 1, none⟩ y) := bset (bset h hR _ _) hR _ _
/-- A block of halves. -/
def HN (w : World) (c n : Nat) (p : Option Addr) (m : Nat) (q : Option Addr) : Prop := w.heap[c]? = some (.cells #[.int .u64 (n : Int), .pointer p, .int .u64 (m : Int), .pointer q] 132 (0, 0))
theorem HN.c0 {w : World} {c n m : Nat} {p q : Option Addr} (h : HN w c n p m q) : w.cell? ⟨c, 0, none⟩ = some (.int .u64 (n : Int)) := blk_cell h 0
theorem HN.c1 {w : World} {c n m : Nat} {p q : Option Addr} (h : HN w c n p m q) : w.cell? ⟨c, 1, none⟩ = some (.pointer p) := blk_cell h 1
theorem HN.c2 {w : World} {c n m : Nat} {p q : Option Addr} (h : HN w c n p m q) : w.cell? ⟨c, 2, none⟩ = some (.int .u64 (m : Int)) := blk_cell h 2
theorem HN.c3 {w : World} {c n m : Nat} {p q : Option Addr} (h : HN w c n p m q) : w.cell? ⟨c, 3, none⟩ = some (.pointer q) := blk_cell h 3
theorem HN.lt {w : World} {c n m : Nat} {p q : Option Addr} (h : HN w c n p m q) : c < w.heap.size := blk_lt h
theorem HN.below {w w' : World} {c n m : Nat} {p q : Option Addr} (h : HN w c n p m q) (hb : Below w.heap.size w w') : HN w' c n p m q := (hb.block c (blk_lt h)).trans h
theorem HN.drew {w : World} {c n m : Nat} {p q : Option Addr} (h : HN w c n p m q) : HN w.drew c n p m q := h
theorem HN.new (w : World) (n : Nat) (p : Option Addr) (m : Nat) (q : Option Addr) : HN (w.alloc (.cells #[.int .u64 (n : Int), .pointer p, .int .u64 (m : Int), .pointer q] 132)) w.heap.size n p m q := heap_alloc_new w _
/-- What a value of type Event stands for. -/
def EVV (w : World) : Ev → Value → Prop
  | .lf n, v => v = .agg #[.int .u64 (n : Int), .pointer none]
  | .nd n a b, v => ∃ c pa pb, v = .agg #[.int .u64 (n : Int), .pointer (some ⟨c, 0, none⟩)] ∧ HN w c a.base pa b.base pb ∧ EVV w a (.agg #[.int .u64 (a.base : Int), .pointer pa]) ∧ EVV w b (.agg #[.int .u64 (b.base : Int), .pointer pb])
theorem EVV.kp {w w' : World} (hk : K2 w w') : ∀ {e : Ev} {v : Value}, EVV w e v → EVV w' e v
  | .lf _, _, h => h
  | .nd _ _ _, _, ⟨c, pa, pb, hv, hn, ha, hb⟩ => ⟨c, pa, pb, hv, hk c _ hn, EVV.kp hk ha, EVV.kp hk hb⟩
theorem EVV.below {w w' : World} (hb : Below w.heap.size w w') {e : Ev} {v : Value} (h : EVV w e v) : EVV w' e v := h.kp (K2.of hb)
theorem EVV.alloc {w : World} {e : Ev} {v : Value} (h : EVV w e v) (o : Obj) : EVV (w.alloc o) e v := h.below (bel0 w o)
theorem EVV.drew {w : World} {e : Ev} {v : Value} (h : EVV w e v) : EVV w.drew e v := EVV.below (w := w) (w' := w.drew) (bdrew (Below.refl _ _)) h
theorem EVV.shape {w : World} {e : Ev} {v : Value} (h : EVV w e v) : ∃ p, v = .agg #[.int .u64 (e.base : Int), .pointer p] ∧ ((e.isL = true ∧ p = none) ∨ (e.isL = false ∧ ∃ c, p = some ⟨c, 0, none⟩)) := by
  cases e with
  | lf n => exact ⟨none, h, .inl ⟨rfl, rfl⟩⟩
  | nd n a b =>
    obtain ⟨c, pa, pb, hv, _⟩ := h
    exact ⟨_, hv, .inr ⟨rfl, c, rfl⟩⟩
theorem ebase_is {e : Ev} {v : Value} {n : Nat} (w : World) (h : EVV w e v) (hn : e.base = n) : Calls Try.prog 91 #[v] w fun x w' => x = .returned (.int .u64 (n : Int)) ∧ Below w.heap.size w w' := by
  subst hn
  obtain ⟨p, rfl, _⟩ := h.shape
  clear h
  go_enter Try.func91, Try.ntmps91
  go_wp2_with fail
  go_ret
  exact ⟨rfl, bel0 _ _⟩
theorem eleaf_is {e : Ev} {v : Value} {b : Bool} (w : World) (h : EVV w e v) (hn : e.isL = b) : Calls Try.prog 92 #[v] w fun x w' => x = .returned (.bool b) ∧ Below w.heap.size w w' := by
  subst hn
  obtain ⟨p, rfl, hp⟩ := h.shape
  have hb := fun (n : Nat) (p : Option Addr) => bel0 w (.cells #[.int .u64 (n : Int), .pointer p] 77)
  clear h
  rcases hp with ⟨h1, rfl⟩ | ⟨h1, c, rfl⟩
  all_goals
    rw [h1]
    clear h1
    go_enter Try.func92, Try.ntmps92
    go_wp2_with fail
    go_ret
    exact ⟨rfl, hb _ _⟩
set_option maxHeartbeats 800000 in
theorem eleft_is {e t : Ev} {v : Value} (w : World) (h : EVV w e v) (ht : e.pl = t) : Calls Try.prog 93 #[v] w fun x w' => ∃ u, x = .returned u ∧ EVV w' t u ∧ Below w.heap.size w w' := by
  subst ht
  cases e with
  | lf n =>
    subst h
    go_enter Try.func93, Try.ntmps93
    go_wp2_with fail
    exact bodyPost_ret (v := .agg #[.int .u64 0, .pointer none]) (by simp [results, Try.results93, go_sem]) rfl ⟨_, rfl, rfl, bel1 _ _ _⟩
  | nd n a b =>
    obtain ⟨c, pa, pb, rfl, hc, hl, hr⟩ := h
    have h0 := hc.c0
    have h1 := hc.c1
    have hlt := hc.lt
    have hn1 : w.heap.size ≠ c := by omega
    have hn2 : w.heap.size + 1 ≠ c := by omega
    have HL := Lib.hid hl
    clear hl hr hc
    generalize a.base = A at *
    go_enter Try.func93, Try.ntmps93
    go_wp2_with fail
    exact bodyPost_ret (v := .agg #[.int .u64 (A : Int), .pointer pa]) (by simp [results, Try.results93, go_sem]) rfl ⟨_, rfl, HL.out.below (bel1 _ _ _), bel1 _ _ _⟩
set_option maxHeartbeats 800000 in
theorem eright_is {e t : Ev} {v : Value} (w : World) (h : EVV w e v) (ht : e.pr = t) : Calls Try.prog 94 #[v] w fun x w' => ∃ u, x = .returned u ∧ EVV w' t u ∧ Below w.heap.size w w' := by
  subst ht
  cases e with
  | lf n =>
    subst h
    go_enter Try.func94, Try.ntmps94
    go_wp2_with fail
    exact bodyPost_ret (v := .agg #[.int .u64 0, .pointer none]) (by simp [results, Try.results94, go_sem]) rfl ⟨_, rfl, rfl, bel1 _ _ _⟩
  | nd n a b =>
    obtain ⟨c, pa, pb, rfl, hc, hl, hr⟩ := h
    have h0 := hc.c2
    have h1 := hc.c3
    have hlt := hc.lt
    have hn1 : w.heap.size ≠ c := by omega
    have hn2 : w.heap.size + 1 ≠ c := by omega
    have HL := Lib.hid hr
    clear hl hr hc
    generalize b.base = A at *
    go_enter Try.func94, Try.ntmps94
    go_wp2_with fail
    exact bodyPost_ret (v := .agg #[.int .u64 (A : Int), .pointer pb]) (by simp [results, Try.results94, go_sem]) rfl ⟨_, rfl, HL.out.below (bel1 _ _ _), bel1 _ _ _⟩
set_option maxRecDepth 100000 in
set_option maxHeartbeats 1600000 in
theorem edepth_any : ∀ {e : Ev} {v : Value} (w : World), EVV w e v → e.depth ≤ 1000000 → Calls Try.prog 98 #[v] w fun x w' => x = .returned (.int .i64 (e.depth : Int)) ∧ Below w.heap.size w w'
  | .lf n, v, w, h, _ => by
    subst h
    go_enter Try.func98, Try.ntmps98
    go_wp2_with fail
    go_ret
    exact ⟨rfl, bel0 _ _⟩
  | .nd n x y, v, w, h, hd => by
    have hdm : (Ev.nd n x y).depth = 1 + max x.depth y.depth := rfl
    rw [hdm] at hd
    have ihl := fun vx wx hx => edepth_any (e := x) (v := vx) wx hx (by omega)
    have ihr := fun vx wx hx => edepth_any (e := y) (v := vx) wx hx (by omega)
    have IL := Lib.hid ihl
    have IR := Lib.hid ihr
    obtain ⟨b, pa, pb, rfl, hn, hl, hr⟩ := h
    have bx := EB.new w n (some ⟨b, 0, none⟩)
    have hb := bel0 w (.cells #[.int .u64 (n : Int), .pointer (some ⟨b, 0, none⟩)] 77)
    have hn := hn.below hb
    have HL := Lib.hid hl
    have HR := Lib.hid hr
    clear ihl ihr hl hr
    obtain ⟨A, hA⟩ : ∃ A, x.base = A := ⟨_, rfl⟩
    obtain ⟨B, hB⟩ : ∃ B, y.base = B := ⟨_, rfl⟩
    rw [hA] at hn HL
    rw [hB] at hn HR
    clear hA hB
    have hw : IntKind.i64.wrap (1 + if x.depth < y.depth then (y.depth : Int) else (x.depth : Int)) = ((Ev.nd n x y).depth : Int) := by
      rw [IntWalk.i64_in _ (by split <;> omega), hdm]
      split <;> omega
    have HW := Lib.hid hw
    clear hw hdm
    go_enter Try.func98, Try.ntmps98
    go_upto_region 3 with (fail)
    generalize w.alloc (.cells #[.int .u64 (n : Int), .pointer (some ⟨b, 0, none⟩)] 77) = W at *
    obtain ⟨B', hB⟩ : ∃ B, w.heap.size = B := ⟨_, rfl⟩
    rw [hB] at bx ⊢
    have hb := bdrew hb
    have bx := bx.drew
    have hn := hn.drew
    go_region_held3 (fun w' => w'.cell? ⟨B', 1, none⟩ = some (.pointer (some ⟨b, 0, none⟩)) ∧ w'.cell? ⟨b, 0, none⟩ = some (.int .u64 (A : Int)) ∧ w'.cell? ⟨b, 1, none⟩ = some (.pointer pa) ∧ w'.cell? ⟨b, 2, none⟩ = some (.int .u64 (B : Int)) ∧ w'.cell? ⟨b, 3, none⟩ = some (.pointer pb)) (exact ⟨bx.c1, hn.c0, hn.c1, hn.c2, hn.c3⟩)
      (first
        | (go_at_call_of 98 (Value.agg #[Value.int .u64 (A : Int), Value.pointer pa]); (with_reducible refine Calls.mono (IL.out _ _ (HL.out.below hb)) ?_); rintro e wn ⟨rfl, hk⟩; have hb := hb.trans (hk.mono hb.size); have bx := bx.below hk; have hn := hn.below hk; clear hk)
        | (go_at_call_of 98 (Value.agg #[Value.int .u64 (B : Int), Value.pointer pb]); (with_reducible refine Calls.mono (IR.out _ _ (HR.out.below hb)) ?_); rintro e wn ⟨rfl, hk⟩; have hb := hb.trans (hk.mono hb.size); have bx := bx.below hk; have hn := hn.below hk; clear hk))
    rw [HW.out]
    go_wp2_with fail
    all_goals
      go_ret
      exact ⟨rfl, by rw [← hB]; exact hb⟩
set_option maxRecDepth 100000 in
set_option maxHeartbeats 1600000 in
theorem emax_any : ∀ {e : Ev} {v : Value} (w : World), EVV w e v → e.top < 1000000000 → Calls Try.prog 99 #[v] w fun x w' => x = .returned (.int .u64 (e.top : Int)) ∧ Below w.heap.size w w'
  | .lf n, v, w, h, _ => by
    subst h
    simp only [Ev.top]
    go_enter Try.func99, Try.ntmps99
    go_wp2_with fail
    go_ret
    exact ⟨rfl, bel0 _ _⟩
  | .nd n x y, v, w, h, hd => by
    have hdm : (Ev.nd n x y).top = n + max x.top y.top := rfl
    rw [hdm] at hd
    have ihl := fun vx wx hx => emax_any (e := x) (v := vx) wx hx (by omega)
    have ihr := fun vx wx hx => emax_any (e := y) (v := vx) wx hx (by omega)
    have IL := Lib.hid ihl
    have IR := Lib.hid ihr
    obtain ⟨b, pa, pb, rfl, hn, hl, hr⟩ := h
    have bx := EB.new w n (some ⟨b, 0, none⟩)
    have hb := bel0 w (.cells #[.int .u64 (n : Int), .pointer (some ⟨b, 0, none⟩)] 77)
    have hn := hn.below hb
    have HL := Lib.hid hl
    have HR := Lib.hid hr
    clear ihl ihr hl hr
    obtain ⟨A, hA⟩ : ∃ A, x.base = A := ⟨_, rfl⟩
    obtain ⟨B, hB⟩ : ∃ B, y.base = B := ⟨_, rfl⟩
    rw [hA] at hn HL
    rw [hB] at hn HR
    clear hA hB
    have hw : IntKind.u64.wrap ((n : Int) + if x.top < y.top then (y.top : Int) else (x.top : Int)) = ((Ev.nd n x y).top : Int) := by
      rw [u64_in (by split <;> omega) (by split <;> omega), hdm]
      split <;> omega
    have HW := Lib.hid hw
    clear hw hdm hd
    go_enter Try.func99, Try.ntmps99
    go_upto_region 3 with (fail)
    generalize w.alloc (.cells #[.int .u64 (n : Int), .pointer (some ⟨b, 0, none⟩)] 77) = W at *
    obtain ⟨B', hB⟩ : ∃ B, w.heap.size = B := ⟨_, rfl⟩
    rw [hB] at bx ⊢
    have hb := bdrew hb
    have bx := bx.drew
    have hn := hn.drew
    go_region_held3 (fun w' => (w'.cell? ⟨B', 0, none⟩ = some (.int .u64 (n : Int)) ∧ w'.cell? ⟨B', 1, none⟩ = some (.pointer (some ⟨b, 0, none⟩))) ∧ w'.cell? ⟨b, 0, none⟩ = some (.int .u64 (A : Int)) ∧ w'.cell? ⟨b, 1, none⟩ = some (.pointer pa) ∧ w'.cell? ⟨b, 2, none⟩ = some (.int .u64 (B : Int)) ∧ w'.cell? ⟨b, 3, none⟩ = some (.pointer pb)) (exact ⟨⟨bx.c0, bx.c1⟩, hn.c0, hn.c1, hn.c2, hn.c3⟩)
      (first
        | (go_at_call_of 99 (Value.agg #[Value.int .u64 (A : Int), Value.pointer pa]); (with_reducible refine Calls.mono (IL.out _ _ (HL.out.below hb)) ?_); rintro e wn ⟨rfl, hk⟩; have hb := hb.trans (hk.mono hb.size); have bx := bx.below hk; have hn := hn.below hk; clear hk)
        | (go_at_call_of 99 (Value.agg #[Value.int .u64 (B : Int), Value.pointer pb]); (with_reducible refine Calls.mono (IR.out _ _ (HR.out.below hb)) ?_); rintro e wn ⟨rfl, hk⟩; have hb := hb.trans (hk.mono hb.size); have bx := bx.below hk; have hn := hn.below hk; clear hk))
    rw [HW.out]
    go_wp2_with fail
    all_goals
      go_ret
      exact ⟨rfl, by rw [← hB]; exact hb⟩
set_option maxHeartbeats 800000 in
theorem eLeaf_any {n : Nat} {K : Int} (w : World) (hK : K = (n : Int)) (hn : n ≤ 1048576) : Calls Try.prog 76 #[.int .u64 K] w fun x w' => ∃ u, x = .returned (.tuple #[u, .int .i64 0]) ∧ EVV w' (.lf n) u ∧ Below w.heap.size w w' := by
  subst hK
  have hn' : ¬ (1048576 : Int) < (n : Int) := by omega
  clear hn
  have b3 := EB.new w 0 none
  have hb := bel0 w (.cells #[.int .u64 0, .pointer none] 77)
  go_enter Try.func76, Try.ntmps76
  go_wp2_with fail
  exact bodyPost_ret (v := .tuple #[.agg #[.int .u64 (n : Int), .pointer none], .int .i64 0]) (by simp [results, Try.results76, go_sem]) rfl ⟨_, rfl, rfl, by first | exact hb | exact bel0 _ _ | exact eput hb (Nat.le_refl _) _ _⟩
end Go.Proofs.Ytigkjmfkpmehlaa
