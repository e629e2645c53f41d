/- slices.Index, Contains, IndexFunc, ContainsFunc, Equal at spans; the test whether a span begins within (fill$1). -/
import Derived.Test.YtigkjmfkpmehlaaShareKit
import Derived.Test.YtigkjmfkpmehlaaSpanLaw
import Derived.Shelf.Abstract
import Derived.BigQuiet
import Derived.Deep.QuietTactic
namespace Go.Proofs.Ytigkjmfkpmehlaa
open Go.RowKit

/-- A slice of spans that is read. -/
def CX (w : World) (v : Value) (xs : List (Nat × Nat)) : Prop := ∃ a cap, v = .slice a xs.length cap ∧ ((a = none ∧ xs = []) ∨ ∃ g, a = some ⟨g, 0, none⟩ ∧ xs.length ≤ cap ∧ ∀ j p, xs[j]? = some p → w.cell? ⟨g, j, none⟩ = some (cx (fp p)))
theorem CX.below {w w' : World} {v : Value} {xs : List (Nat × Nat)} (h : CX w v xs) (hb : Below w.heap.size w w') : CX w' v xs := by
  obtain ⟨a, cap, hv, h⟩ := h
  refine ⟨a, cap, hv, ?_⟩
  rcases h with h | ⟨g, ha, hn, hc⟩
  · exact .inl h
  · refine .inr ⟨g, ha, hn, fun j p hj => ?_⟩
    have := hc j p hj
    exact (hb.cell (p := ⟨g, j, none⟩) (World.block_lt_of_cell? w _ this)).trans this
theorem CX.of {w : World} {base : Nat} {v : Value} {xs : List (Nat × Nat)} (h : w.ownsRow base 23 1 v xs.length ((xs.map fp).map cx)) : CX w v xs := by
  obtain ⟨a, cap, hv, h⟩ := own_forms h
  refine ⟨a, cap, hv, ?_⟩
  rcases h with ⟨ha, _, hn⟩ | ⟨g, ha, hn, hc⟩
  · exact .inl ⟨ha, List.eq_nil_of_length_eq_zero hn⟩
  · exact .inr ⟨g, ha, hn, fun j p hj => hc j _ (by rw [List.getElem?_map, List.getElem?_map, hj]; rfl)⟩
/-- Are all numbers small? -/
def Sm (xs : List (Nat × Nat)) : Prop := ∀ c ∈ xs, c.1 < 2 ^ 40 ∧ c.2 < 2 ^ 40
theorem ord_ne {a b : Nat} (ha : a < 2 ^ 50) (hb : b < 2 ^ 50) (h : a ≠ b) : (FloatKind.f64.format.order (fl a) (fl b) == some .eq) = false := by
  rw [fl_eq (by omega) (by omega)]
  exact decide_eq_false h
theorem ord_eq {a b : Nat} (ha : a < 2 ^ 50) (hb : b < 2 ^ 50) (h : a = b) : (FloatKind.f64.format.order (fl a) (fl b) == some .eq) = true := by
  rw [fl_eq (by omega) (by omega)]
  exact decide_eq_true h
/-- The index, or -1: is it there? -/
def IxPost (b : Bool) (w : World) (e : Ending) (w' : World) : Prop := ∃ k : Int, e = .returned (.int .i64 k) ∧ decide (0 ≤ k) = b ∧ Below w.heap.size w w'

set_option maxRecDepth 100000 in
set_option maxHeartbeats 1600000 in
theorem index_any {xs : List (Nat × Nat)} {v : Value} {p : Nat × Nat} (w : World) (h : CX w v xs) (hs : Sm xs) (hp1 : p.1 < 2 ^ 40) (hp2 : p.2 < 2 ^ 40) (hl : xs.length ≤ 1000000) :
    Calls Try.prog 96 #[v, cx (fp p)] w (IxPost (xs.contains p) w) := by
  have hb := Below.refl w.heap.size w
  obtain ⟨a, cap, rfl, h⟩ := h
  obtain ⟨p1, p2⟩ := p
  simp only at hp1 hp2
  have HS := Lib.hid hs
  clear hs
  simp only [cx, fp]
  rcases h with ⟨rfl, rfl⟩ | ⟨g, rfl, hn, hcell⟩
  · go_enter Try.func96, Try.ntmps96
    go_wp2_with fail
    go_loopw [8] (fun u8 wr => wr = w ∧ u8 = .int .i64 0) (fun _ _ => 0)
    case atStart => exact ⟨rfl, rfl⟩
    case round =>
      obtain ⟨rfl, rfl⟩ := hrel
      go_wp2_with fail
      go_ret
      exact ⟨-1, rfl, by simp, hb⟩
  · have HC := Lib.hid hcell
    clear hcell
    have hn' : (xs.length : Int) ≤ (cap : Int) := by omega
    go_enter Try.func96, Try.ntmps96
    go_wp2_with fail
    go_loopw [8] (fun u8 wr => wr = w ∧ ∃ j : Nat, j ≤ xs.length ∧ u8 = .int .i64 (j : Int) ∧ Hid ((xs.take j).contains (p1, p2) = false)) (fun u8 _ => xs.length - (intOf u8).toNat)
    case atStart => exact ⟨rfl, 0, by omega, rfl, Lib.hid (by simp)⟩
    case round =>
      obtain ⟨rfl, j, hj, rfl, HT⟩ := hrel
      by_cases hlt : j < xs.length
      · have hx : xs[j]? = some xs[j] := List.getElem?_eq_getElem hlt
        have hc := HC.out j xs[j] hx
        have hsj := HS.out xs[j] (List.getElem_mem hlt)
        obtain ⟨⟨c1, c2⟩, hcj⟩ : ∃ c, xs[j] = c := ⟨_, rfl⟩
        rw [hcj] at hc hsj
        simp only [cx, fp] at hc hsj
        obtain ⟨hs1, hs2⟩ := hsj
        have HX := Lib.hid hcj
        clear hx hcj
        by_cases e : p1 = c1 ∧ p2 = c2
        · obtain ⟨e1, e2⟩ := e
          have k1 := ord_eq (a := p1) (b := c1) (by omega) (by omega) e1
          have k2 := ord_eq (a := p2) (b := c2) (by omega) (by omega) e2
          have HE := Lib.hid (show xs.contains (p1, p2) = true by
            simp only [List.contains_iff_mem]
            rw [e1, e2, ← HX.out]
            exact List.getElem_mem hlt)
          clear e1 e2
          go_wp2_with fail
          go_ret
          exact ⟨(j : Int), rfl, by rw [HE.out]; exact decide_eq_true (by omega), hb⟩
        · have HN := Lib.hid (show (xs.take (j + 1)).contains (p1, p2) = false by
            rw [List.take_succ_eq_append_getElem hlt, HX.out]
            have := HT.out
            simp only [List.contains_eq_mem, decide_eq_false_iff_not, List.mem_append, List.mem_singleton, Prod.mk.injEq] at this ⊢
            intro h
            rcases h with h | h
            · exact this h
            · exact e h)
          have ee : p1 ≠ c1 ∨ p2 ≠ c2 := by
            by_cases h1 : p1 = c1
            · exact .inr fun h2 => e ⟨h1, h2⟩
            · exact .inl h1
          clear e
          rcases ee with e1 | e2
          · have k1 := ord_ne (a := p1) (b := c1) (by omega) (by omega) e1
            clear e1
            go_wp2_with fail
            refine ⟨⟨by trivial, j + 1, by omega, by go_num, HN⟩, by simp [intOf]; omega⟩
          · have k2 := ord_ne (a := p2) (b := c2) (by omega) (by omega) e2
            clear e2
            go_wp2_with fail
            all_goals
              refine ⟨⟨by trivial, j + 1, by omega, by go_num, HN⟩, by simp [intOf]; omega⟩
      · obtain rfl : j = xs.length := by omega
        have HT' := HT.out
        rw [List.take_length] at HT'
        have HF := Lib.hid HT'
        clear HT'
        go_wp2_with fail
        go_ret
        exact ⟨-1, rfl, by rw [HF.out]; simp, hb⟩
set_option maxHeartbeats 800000 in
theorem contains_any {xs : List (Nat × Nat)} {v : Value} {p : Nat × Nat} {b : Bool} (w : World) (h : CX w v xs) (hs : Sm xs) (hp1 : p.1 < 2 ^ 40) (hp2 : p.2 < 2 ^ 40) (hl : xs.length ≤ 1000000) (hbb : xs.contains p = b) :
    Calls Try.prog 85 #[v, cx (fp p)] w fun e w' => e = .returned (.bool b) ∧ Below w.heap.size w w' := by
  subst hbb
  obtain ⟨a, cap, rfl, _⟩ := id h
  have H := Lib.hid h
  have HS := Lib.hid hs
  clear h hs
  simp only [cx, fp]
  have HI := Lib.hid (index_any w H.out HS.out hp1 hp2 hl)
  simp only [cx, fp] at HI
  go_enter Try.func85, Try.ntmps85
  go_wp2_with (go_at_call 96; refine Calls.mono HI.out ?_; rintro e wn ⟨k, rfl, hk, hb⟩)
  go_ret
  exact ⟨by first | rfl | simp_all, hb⟩
theorem ord_at {a b : Nat} (ha : a < 2 ^ 50) (hb : b < 2 ^ 50) {o : Ordering} (h : compare a b = o) : FloatKind.f64.format.order (fl a) (fl b) = some o := by
  rw [fl_order (by omega) (by omega), h]
/-- Does the span begin within? -/
def inP (f t : Nat) (c : Nat × Nat) : Bool := decide (f ≤ c.1) && decide (c.1 < t)
set_option maxHeartbeats 800000 in
theorem test_any {f wd t B E : Nat} {c : Nat × Nat} (w : World) (hB : w.cell? ⟨B, 0, none⟩ = some (.complex .f64 (fl f) (fl wd))) (hE : w.cell? ⟨E, 0, none⟩ = some (.float .f64 (fl t))) (hf : f < 2 ^ 50) (ht : t < 2 ^ 50) (hc : c.1 < 2 ^ 40) :
    Calls Try.prog 86 #[cx (fp c), .pointer (some ⟨B, 0, none⟩), .pointer (some ⟨E, 0, none⟩)] w fun e w' => e = .returned (.bool (inP f t c)) ∧ Below w.heap.size w w' := by
  have hb := Below.refl w.heap.size w
  obtain ⟨c1, c2⟩ := c
  simp only at hc
  simp only [cx, fp]
  by_cases h1 : f ≤ c1
  · by_cases h2 : c1 < t
    · have hr : inP f t (c1, c2) = true := by simp [inP, h1, h2]
      rw [hr]
      have k2 := ord_at (a := c1) (b := t) (by omega) (by omega) (Nat.compare_eq_lt.2 h2)
      clear hr h2
      rcases Nat.eq_or_lt_of_le h1 with h1 | h1
      · have k1 := ord_at (a := c1) (b := f) (by omega) (by omega) (Nat.compare_eq_eq.2 h1.symm)
        clear h1
        go_enter Try.func86, Try.ntmps86
        go_wp2_with fail
        go_ret
        exact ⟨rfl, hb⟩
      · have k1 := ord_at (a := c1) (b := f) (by omega) (by omega) (Nat.compare_eq_gt.2 h1)
        clear h1
        go_enter Try.func86, Try.ntmps86
        go_wp2_with fail
        go_ret
        exact ⟨rfl, hb⟩
    · have hr : inP f t (c1, c2) = false := by simp [inP, h2]
      rw [hr]
      have k2 : ∃ o, FloatKind.f64.format.order (fl c1) (fl t) = some o ∧ (o = .eq ∨ o = .gt) := by
        rcases Nat.eq_or_lt_of_le (Nat.le_of_not_lt h2) with h2 | h2
        · exact ⟨_, ord_at (by omega) (by omega) (Nat.compare_eq_eq.2 h2.symm), .inl rfl⟩
        · exact ⟨_, ord_at (by omega) (by omega) (Nat.compare_eq_gt.2 h2), .inr rfl⟩
      have k1 : ∃ o, FloatKind.f64.format.order (fl c1) (fl f) = some o ∧ (o = .eq ∨ o = .gt) := by
        rcases Nat.eq_or_lt_of_le h1 with h1 | h1
        · exact ⟨_, ord_at (by omega) (by omega) (Nat.compare_eq_eq.2 h1.symm), .inl rfl⟩
        · exact ⟨_, ord_at (by omega) (by omega) (Nat.compare_eq_gt.2 h1), .inr rfl⟩
      obtain ⟨o1, k1, h1'⟩ := k1
      obtain ⟨o2, k2, h2'⟩ := k2
      clear hr h1 h2
      rcases h1' with rfl | rfl <;> rcases h2' with rfl | rfl
      all_goals
        go_enter Try.func86, Try.ntmps86
        go_wp2_with fail
        go_ret
        exact ⟨rfl, hb⟩
  · have hr : inP f t (c1, c2) = false := by simp [inP, h1]
    rw [hr]
    have k1 := ord_at (a := c1) (b := f) (by omega) (by omega) (Nat.compare_eq_lt.2 (by omega : c1 < f))
    clear hr h1
    go_enter Try.func86, Try.ntmps86
    go_wp2_with fail
    go_ret
    exact ⟨rfl, hb⟩
theorem takeF_any {l : List (Nat × Nat)} {q : Nat × Nat → Bool} {j : Nat} (h : (l.take j).any q = false) (hj : j < l.length) (hq : q l[j] = false) : (l.take (j + 1)).any q = false := by
  rw [List.take_succ_eq_append_getElem hj, List.any_append, h]
  simp [hq]
set_option maxRecDepth 100000 in
set_option maxHeartbeats 1600000 in
theorem indexF_any {xs : List (Nat × Nat)} {v : Value} {f wd t B E : Nat} (w : World) (h : CX w v xs) (hs : Sm xs) (hB : w.cell? ⟨B, 0, none⟩ = some (.complex .f64 (fl f) (fl wd))) (hE : w.cell? ⟨E, 0, none⟩ = some (.float .f64 (fl t))) (hf : f < 2 ^ 50) (ht : t < 2 ^ 50) (hl : xs.length ≤ 1000000) :
    Calls Try.prog 97 #[v, .func (.func 86) #[] #[.pointer (some ⟨B, 0, none⟩), .pointer (some ⟨E, 0, none⟩)]] w (IxPost (xs.any (inP f t)) w) := by
  have hb := Below.refl w.heap.size w
  have eg : ∀ args w, (callFunc 86 args).run Try.prog w = .ok (.enter 86 args) w := enters_of Try.func86 (by kernel_rfl) rfl
  obtain ⟨a, cap, rfl, h⟩ := h
  have HS := Lib.hid hs
  have hlB := World.block_lt_of_cell? w _ hB
  have hlE := World.block_lt_of_cell? w _ hE
  simp only at hlB hlE
  have HB := Lib.hid (fun (wr : World) (k : Below w.heap.size w wr) => (k.cell (p := ⟨B, 0, none⟩) hlB).trans hB)
  have HE := Lib.hid (fun (wr : World) (k : Below w.heap.size w wr) => (k.cell (p := ⟨E, 0, none⟩) hlE).trans hE)
  clear hs hB hE
  rcases h with ⟨rfl, rfl⟩ | ⟨g, rfl, hn, hcell⟩
  · go_enter Try.func97, Try.ntmps97
    go_wp2_with fail
    go_loopw [8] (fun u8 wr => wr = w ∧ u8 = .int .i64 0) (fun _ _ => 0)
    case atStart => exact ⟨rfl, rfl⟩
    case round =>
      obtain ⟨rfl, rfl⟩ := hrel
      go_wp2_with fail
      go_ret
      exact ⟨-1, rfl, by simp, hb⟩
  · have HC := Lib.hid (fun (wr : World) (k : Below w.heap.size w wr) j p hj => (k.cell (p := ⟨g, j, none⟩) (World.block_lt_of_cell? w _ (hcell j p hj))).trans (hcell j p hj))
    clear hcell
    have hn' : (xs.length : Int) ≤ (cap : Int) := by omega
    go_enter Try.func97, Try.ntmps97
    go_wp2_with fail
    go_loopw [8] (fun u8 wr => Below w.heap.size w wr ∧ ∃ j : Nat, j ≤ xs.length ∧ u8 = .int .i64 (j : Int) ∧ Hid ((xs.take j).any (inP f t) = false)) (fun u8 _ => xs.length - (intOf u8).toNat)
    case atStart => exact ⟨hb, 0, by omega, rfl, Lib.hid (by simp)⟩
    case round =>
      obtain ⟨hbr, j, hj, rfl, HT⟩ := hrel
      by_cases hlt : j < xs.length
      · have hx : xs[j]? = some xs[j] := List.getElem?_eq_getElem hlt
        have hc := HC.out wr hbr j xs[j] hx
        have hsj := HS.out xs[j] (List.getElem_mem hlt)
        have HX := Lib.hid (show xs[j] ∈ xs from List.getElem_mem hlt)
        have HN := Lib.hid (fun hq => takeF_any (q := inP f t) HT.out hlt hq)
        have hcall := test_any (c := xs[j]) wr (HB.out wr hbr) (HE.out wr hbr) hf ht hsj.1
        have HXE := Lib.hid (fun (hq : inP f t xs[j] = true) => (List.any_eq_true.2 ⟨_, List.getElem_mem hlt, hq⟩ : xs.any (inP f t) = true))
        generalize xs[j] = c at *
        clear hx hsj HX
        cases hq : inP f t c with
        | true =>
          rw [hq] at hcall
          have HCL := Lib.hid hcall
          have HR := Lib.hid (HXE.out hq)
          clear hcall hq HXE HN
          go_wp2_with (go_at_fn 86; refine HCL.out.mono ?_; rintro e wn ⟨rfl, hkk⟩)
          go_ret
          exact ⟨(j : Int), rfl, by rw [HR.out]; exact decide_eq_true (by omega), hbr.trans (hkk.mono hbr.size)⟩
        | false =>
          rw [hq] at hcall
          have HCL := Lib.hid hcall
          have HR := Lib.hid (HN.out hq)
          clear hcall hq HXE HN
          go_wp2_with (go_at_fn 86; refine HCL.out.mono ?_; rintro e wn ⟨rfl, hkk⟩)
          exact ⟨⟨hbr.trans (hkk.mono hbr.size), j + 1, by omega, by go_num, HR⟩, by simp [intOf]; omega⟩
      · obtain rfl : j = xs.length := by omega
        have HT' := HT.out
        rw [List.take_length] at HT'
        have HF := Lib.hid HT'
        clear HT'
        go_wp2_with fail
        go_ret
        exact ⟨-1, rfl, by rw [HF.out]; simp, hbr⟩
set_option maxHeartbeats 800000 in
theorem containsF_any {xs : List (Nat × Nat)} {v : Value} {f wd t B E : Nat} {b : Bool} (w : World) (h : CX w v xs) (hs : Sm xs) (hB : w.cell? ⟨B, 0, none⟩ = some (.complex .f64 (fl f) (fl wd))) (hE : w.cell? ⟨E, 0, none⟩ = some (.float .f64 (fl t))) (hf : f < 2 ^ 50) (ht : t < 2 ^ 50) (hl : xs.length ≤ 1000000) (hbb : xs.any (inP f t) = b) :
    Calls Try.prog 87 #[v, .func (.func 86) #[] #[.pointer (some ⟨B, 0, none⟩), .pointer (some ⟨E, 0, none⟩)]] w fun e w' => e = .returned (.bool b) ∧ Below w.heap.size w w' := by
  subst hbb
  have HI := Lib.hid (indexF_any w h hs hB hE hf ht hl)
  obtain ⟨a, cap, rfl, _⟩ := id h
  clear h hs hB hE
  go_enter Try.func87, Try.ntmps87
  go_wp2_with (go_at_call 97; refine Calls.mono HI.out ?_; rintro e wn ⟨k, rfl, hk, hb⟩)
  go_ret
  exact ⟨by first | rfl | simp_all, hb⟩
set_option maxRecDepth 100000 in
set_option maxHeartbeats 1600000 in
theorem equal_any {xs : List (Nat × Nat)} {u v : Value} (w : World) (h : CX w u xs) (k : CX w v xs) (hs : Sm xs) (hl : xs.length ≤ 1000000) :
    Calls Try.prog 73 #[u, v] w fun e w' => e = .returned (.bool true) ∧ Below w.heap.size w w' := by
  have hb := Below.refl w.heap.size w
  obtain ⟨a, cap, rfl, h⟩ := h
  obtain ⟨a', cap', rfl, k⟩ := k
  have HS := Lib.hid hs
  clear hs
  rcases h with ⟨rfl, rfl⟩ | ⟨g, rfl, hn, hcell⟩
  · go_enter Try.func73, Try.ntmps73
    go_wp2_with fail
    go_loopw [13] (fun u8 wr => wr = w ∧ u8 = .int .i64 0) (fun _ _ => 0)
    case atStart => exact ⟨rfl, rfl⟩
    case round =>
      obtain ⟨rfl, rfl⟩ := hrel
      go_wp2_with fail
      go_ret
      exact ⟨rfl, hb⟩
  · rcases k with ⟨rfl, rfl⟩ | ⟨g', rfl, hn', hcell'⟩
    · go_enter Try.func73, Try.ntmps73
      go_wp2_with fail
      go_loopw [13] (fun u8 wr => wr = w ∧ u8 = .int .i64 0) (fun _ _ => 0)
      case atStart => exact ⟨rfl, rfl⟩
      case round =>
        obtain ⟨rfl, rfl⟩ := hrel
        go_wp2_with fail
        go_ret
        exact ⟨rfl, hb⟩
    · have HC := Lib.hid (fun (wr : World) (k : Below w.heap.size w wr) j p hj => (k.cell (p := ⟨g, j, none⟩) (World.block_lt_of_cell? w _ (hcell j p hj))).trans (hcell j p hj))
      have HC' := Lib.hid (fun (wr : World) (k : Below w.heap.size w wr) j p hj => (k.cell (p := ⟨g', j, none⟩) (World.block_lt_of_cell? w _ (hcell' j p hj))).trans (hcell' j p hj))
      clear hcell hcell'
      have m1 : (xs.length : Int) ≤ (cap : Int) := by omega
      have m2 : (xs.length : Int) ≤ (cap' : Int) := by omega
      go_enter Try.func73, Try.ntmps73
      go_wp2_with fail
      go_loopw [13] (fun u8 wr => Below w.heap.size w wr ∧ ∃ j : Nat, j ≤ xs.length ∧ u8 = .int .i64 (j : Int)) (fun u8 _ => xs.length - (intOf u8).toNat)
      case atStart => exact ⟨hb, 0, by omega, rfl⟩
      case round =>
        obtain ⟨hbr, j, hj, rfl⟩ := hrel
        by_cases hlt : j < xs.length
        · have hx : xs[j]? = some xs[j] := List.getElem?_eq_getElem hlt
          have hc := HC.out wr hbr j xs[j] hx
          have hc' := HC'.out wr hbr j xs[j] hx
          have hsj := HS.out xs[j] (List.getElem_mem hlt)
          generalize xs[j] = c at *
          obtain ⟨c1, c2⟩ := c
          simp only [cx, fp] at hc hc' hsj
          obtain ⟨hs1, hs2⟩ := hsj
          have k1 := ord_at (a := c1) (b := c1) (by omega) (by omega) (Nat.compare_eq_eq.2 rfl)
          have k2 := ord_at (a := c2) (b := c2) (by omega) (by omega) (Nat.compare_eq_eq.2 rfl)
          generalize fl c1 = x at *
          generalize fl c2 = y at *
          clear hx hs1 hs2
          go_wp2_with fail
          go_quiet (fail)
          go_wp2_with fail
          exact ⟨⟨bdrewN hbr _, j + 1, by omega, by go_num⟩, by simp [intOf]; omega⟩
        · obtain rfl : j = xs.length := by omega
          go_wp2_with fail
          go_ret
          exact ⟨rfl, hbr⟩
end Go.Proofs.Ytigkjmfkpmehlaa
