/- The bit writer's Put, Len, Bytes. -/
import Derived.Test.YtcooeopcjomhoaaRows
import Derived.Test.YtcooeopcjomhoaaPlain
import Derived.WalkKit
import Derived.WalkLawsBesides
import Derived.WalkSpells
import Derived.Lib.Hide
import Derived.Deep.DeepCutAuto
import Derived.Maps.AppendAt
import Derived.WalkSmall
import Derived.Deep.QuietTactic
import Derived.BigQuiet
namespace Go.Proofs.Ytcooeopcjomhoaa
open Go.RowKit Plain

theorem ret_int {k : IntKind} {a b : Int} (h : a = b) : Ending.returned (.int k a) = .returned (.int k b) := by rw [h]
theorem Try.info5 : (Try.prog.info? 5).map (fun i => (i.zero, i.size, i.bytes)) = some (some (.int .u8 0), 1, 1) := by kernel_rfl

theorem within_any (k : Int) (w : World) : Calls Try.prog 30 #[.int .i64 k] w fun e w' => e = .returned (.int .i64 (min (max k 0) 64)) ∧ w = w' := by
  go_enter Try.func30, Try.ntmps30
  go_wp2
  all_goals
    go_ret
    exact ⟨ret_int (by omega), rfl⟩

theorem blk_cell {w : World} {b : Nat} {cs : Array Value} {t : TypeId} (h : w.heap[b]? = some (.cells cs t (0, 0))) (o : Nat) : w.cell? ⟨b, o, none⟩ = cs[o]? := by
  simp [World.cell?, h]
theorem blk_frozen {w : World} {b : Nat} {cs : Array Value} {t : TypeId} (h : w.heap[b]? = some (.cells cs t (0, 0))) (o : Nat) : w.frozen? ⟨b, o, none⟩ = false := by
  simp [World.frozen?, h]
theorem blk_lt {w : World} {b : Nat} {o : Obj} (h : w.heap[b]? = some o) : b < w.heap.size := (Array.getElem?_eq_some_iff.1 h).1
theorem blk_set {w : World} {b : Nat} {cs : Array Value} {t : TypeId} (h : w.heap[b]? = some (.cells cs t (0, 0))) (o : Nat) (v : Value) :
    (w.setCell ⟨b, o, none⟩ v).heap[b]? = some (.cells (cs.setIfInBounds o v) t (0, 0)) := by
  simp only [World.setCell, Array.getElem?_modify, if_true, h, Option.map_some]
  simp
theorem blk_far {w : World} {b : Nat} {a : Addr} (v : Value) (h : b ≠ a.block) : (w.setCell a v).heap[b]? = w.heap[b]? := Below.heap_setCell _ _ _ _ h

/-- A writer's block g: its bytes P, its count m; q: the block of its bytes. -/
def WX (w : World) (g : Nat) (q : Option Nat) (P : List Int) (m : Nat) : Prop :=
  ∃ v, w.heap[g]? = some (.cells #[v, .int .i64 (m : Int)] 59 (0, 0)) ∧ v.ownBlock = q ∧ q ≠ some g ∧ w.ownsRow 0 5 1 v P.length (P.map (Value.int .u8))
/-- A writer's block g: its bits are l. -/
def WR (w : World) (g : Nat) (q : Option Nat) (l : List Bool) : Prop := WX w g q (pack l) l.length

/-- Nothing that was there has turned, but the blocks g and q. -/
structure Fr (w w' : World) (g : Nat) (q : Option Nat) : Prop where
  os : w'.os = w.os
  tape : w'.tape = w.tape
  output : w'.output = w.output
  size : w.heap.size ≤ w'.heap.size
  block : ∀ k, k < w.heap.size → k ≠ g → some k ≠ q → w'.heap[k]? = w.heap[k]?
theorem Fr.refl (w : World) (g : Nat) (q : Option Nat) : Fr w w g q := ⟨rfl, rfl, rfl, Nat.le_refl _, fun _ _ _ _ => rfl⟩
/-- A writer's bytes may move to a new block. -/
def Mv (w : World) (q q' : Option Nat) : Prop := q' = q ∨ ∃ b, q' = some b ∧ w.heap.size ≤ b
theorem Fr.trans {a b c : World} {g : Nat} {q q' : Option Nat} (h : Fr a b g q) (hq : Mv a q q') (k : Fr b c g q') : Fr a c g q :=
  ⟨k.os.trans h.os, k.tape.trans h.tape, k.output.trans h.output, Nat.le_trans h.size k.size, fun i hi h1 h2 =>
    (k.block i (Nat.lt_of_lt_of_le hi h.size) h1 (by rcases hq with rfl | ⟨b, rfl, hb⟩; exact h2; intro e; injection e with e; omega)).trans (h.block i hi h1 h2)⟩
theorem Mv.trans {a b : World} {q q' q'' : Option Nat} (hs : a.heap.size ≤ b.heap.size) (h : Mv a q q') (k : Mv b q' q'') : Mv a q q'' := by
  rcases k with rfl | ⟨c, rfl, hc⟩
  · exact h
  · exact .inr ⟨c, rfl, by omega⟩
theorem Fr.set {a b : World} {g : Nat} {q : Option Nat} (h : Fr a b g q) (o : Nat) (v : Value) : Fr a (b.setCell ⟨g, o, none⟩ v) g q :=
  ⟨h.os, h.tape, h.output, by simpa [World.setCell] using h.size, fun i hi h1 h2 => (blk_far v h1).trans (h.block i hi h1 h2)⟩
theorem Fr.setq {a b : World} {g c : Nat} (h : Fr a b g (some c)) (o : Nat) (v : Value) : Fr a (b.setCell ⟨c, o, none⟩ v) g (some c) :=
  ⟨h.os, h.tape, h.output, by simpa [World.setCell] using h.size, fun i hi h1 h2 => (blk_far v (by intro e; exact h2 (by simp [e]))).trans (h.block i hi h1 h2)⟩
theorem Fr.setq' {a b : World} {g : Nat} {q q1 : Option Nat} {c n cap : Nat} (h : Fr a b g q) (hq : (Value.slice (some ⟨c, 0, none⟩) n cap).ownBlock = q1) (hm : Mv a q q1) (o : Nat) (v : Value) : Fr a (b.setCell ⟨c, o, none⟩ v) g q :=
  ⟨h.os, h.tape, h.output, by simpa [World.setCell] using h.size, fun i hi h1 h2 => (blk_far v (by
    intro e
    subst hq
    rcases hm with hm | ⟨b, hm, hb⟩
    · exact h2 (by rw [← hm, e]; rfl)
    · simp [Value.ownBlock] at hm; simp at e; omega)).trans (h.block i hi h1 h2)⟩
theorem Fr.grown {a b c : World} {g : Nat} {q : Option Nat} (h : Fr a b g q) (k : b.grownBy c q) : Fr a c g q :=
  ⟨k.os.trans h.os, k.tape.trans h.tape, k.output.trans h.output, Nat.le_trans h.size k.size, fun i hi h1 h2 => (k.block i (Nat.lt_of_lt_of_le hi h.size) h2).trans (h.block i hi h1 h2)⟩

set_option maxHeartbeats 400000 in
theorem put_nil (n k : Int) (w : World) :
    Calls Try.prog 13 #[.pointer none, .int .u64 n, .int .i64 k] w fun e w' => e = .returned (.tuple #[]) ∧ w = w' := by
  go_enter Try.func13, Try.ntmps13
  go_wp2
  exact bodyPost_ret (v := .tuple #[]) (by simp [results, Try.results13, go_sem]) rfl ⟨rfl, rfl⟩

theorem own_slice {w : World} {base : Nat} {e : TypeId} {size : Nat} {v : Value} {n : Nat} {xs : List Value} (h : w.ownsRow base e size v n xs) : ∃ a m c, v = .slice a m c := by
  rcases h.2 with ⟨rfl, _⟩ | ⟨g, cap, cur, rfl, _⟩
  · exact ⟨_, _, _, rfl⟩
  · exact ⟨_, _, _, rfl⟩
/-- Behind an append: the writer's own block. -/
theorem after_append {wr wa w1 : World} {g : Nat} {cs : Array Value} {r : Option Nat} (hb : wr.heap[g]? = some (.cells cs 59 (0, 0))) (hgr : wa.grownBy w1 r) (hr : r ≠ some g) (ha : g < wr.heap.size → wa.heap[g]? = wr.heap[g]?) :
    w1.cell? ⟨g, 0, none⟩ = cs[0]? ∧ w1.frozen? ⟨g, 0, none⟩ = false ∧ w1.heap[g]? = some (.cells cs 59 (0, 0)) := by
  have h := blk_lt hb
  have h2 : wa.heap[g]? = some (.cells cs 59 (0, 0)) := (ha h).trans hb
  have h3 : w1.heap[g]? = some (.cells cs 59 (0, 0)) := (hgr.block g (blk_lt h2) (Ne.symm hr)).trans h2
  exact ⟨blk_cell h3 0, blk_frozen h3 0, h3⟩

theorem own_other {w : World} {base : Nat} {e : TypeId} {size : Nat} {v : Value} {n : Nat} {xs : List Value} (h : w.ownsRow base e size v n xs) {a : Addr} (ha : v.ownBlock ≠ some a.block) (u : Value) : (w.setCell a u).ownsRow base e size v n xs := by
  obtain ⟨h1, h2⟩ := h
  refine ⟨h1, ?_⟩
  rcases h2 with h2 | ⟨g, cap, cur, rfl, hg, hh, r⟩
  · exact .inl h2
  · exact .inr ⟨g, cap, cur, rfl, hg, by rw [blk_far _ (by intro e; exact ha (by simp [Value.ownBlock, e]))]; exact hh, r⟩
theorem own_ne {w : World} {base : Nat} {e t : TypeId} {size : Nat} {v : Value} {n g : Nat} {xs : List Value} {cs : Array Value} (h : w.ownsRow base e size v n xs) (hb : w.heap[g]? = some (.cells cs t (0, 0))) (ht : e ≠ t) : v.ownBlock ≠ some g := by
  intro hq
  rcases h.2 with ⟨rfl, _⟩ | ⟨g', cap, cur, rfl, _, hh, _⟩
  · simp [Value.ownBlock] at hq
  · simp [Value.ownBlock] at hq
    subst hq
    rw [hb] at hh
    simp at hh
    exact ht hh.2.symm
/-- Behind 'w.p = append(w.p, 0)'. -/
theorem append_done {wr w1 : World} {g m n n' : Nat} {v v' : Value} {o : Obj} {q' : Option Nat} {P P' : List Int} (hk : w1.heap[g]? = some (.cells #[v, .int .i64 (m : Int)] 59 (0, 0)))
    (hown : w1.ownsRow 0 5 1 v' n (P.map (Value.int .u8) ++ [.int .u8 0])) (hgr : (wr.alloc o).grownBy w1 v.ownBlock) (hat : v'.ownBlock = v.ownBlock ∨ v'.ownBlock = some (wr.alloc o).heap.size)
    (hq : v.ownBlock = q') (hP : P' = P ++ [0]) (hb : wr.heap[g]? = some (.cells #[v, .int .i64 (n' : Int)] 59 (0, 0))) :
    ∃ q1, WX (w1.setCell ⟨g, 0, none⟩ v') g q1 P' m ∧ Fr wr (w1.setCell ⟨g, 0, none⟩ v') g q' ∧ Mv wr q' q1 := by
  have hn : n = P'.length := by have := hown.1; rw [hP]; simpa using this.symm
  have hne := own_ne hown hk (by decide)
  have hlt := blk_lt hb
  refine ⟨v'.ownBlock, ⟨v', by simpa using blk_set hk 0 v', rfl, hne, ?_⟩, ?_, ?_⟩
  · rw [← hn, hP, List.map_append]
    exact own_other hown (a := ⟨g, 0, none⟩) hne v'
  · refine Fr.set (a := wr) (b := w1) ⟨hgr.os, hgr.tape, hgr.output, Nat.le_trans (show wr.heap.size ≤ (wr.alloc o).heap.size by simp) hgr.size, fun k hk1 h1 h2 => ?_⟩ 0 v'
    exact (hgr.block k (by simp; omega) (by rw [hq]; exact h2)).trans (Below.heap_alloc _ _ _ hk1)
  · rcases hat with e | e
    · exact .inl (by rw [e, hq])
    · exact .inr ⟨_, e, by simp⟩

theorem own_open {w : World} {base : Nat} {e : TypeId} {size : Nat} {v : Value} {n : Nat} {xs : List Value} (h : w.ownsRow base e size v n xs) (hn : 0 < n) : ∃ c cap, v = .slice (some ⟨c, 0, none⟩) n cap ∧ n ≤ cap ∧ cap ≤ maxLen := by
  rcases h.2 with ⟨rfl, h0⟩ | ⟨g, cap, cur, rfl, _, _, h1, h2, _⟩
  · omega
  · exact ⟨g, cap, rfl, h1, h2⟩

theorem Fr.drew' {a b : World} {g : Nat} {q : Option Nat} (h : Fr a b g q) : Fr a b.drew g q := ⟨h.os, h.tape, h.output, h.size, h.block⟩
theorem or_join (l : List Bool) : bits BinOp.or IntKind.u8 (byteAt l (l.length / 8)) (128 / 2 ^ (l.length % 8)) = byteAt l (l.length / 8) + 2 ^ (7 - l.length % 8) := by
  obtain ⟨q, hq⟩ := byteAt_low l
  have hb := byteAt_bounds l (l.length / 8)
  have hr : l.length % 8 = 0 ∨ l.length % 8 = 1 ∨ l.length % 8 = 2 ∨ l.length % 8 = 3 ∨ l.length % 8 = 4 ∨ l.length % 8 = 5 ∨ l.length % 8 = 6 ∨ l.length % 8 = 7 := by omega
  have key : ∀ (y : Int) (i : Nat), byteAt l (l.length / 8) % 2 ^ i = 0 → 0 ≤ y → y < 2 ^ i → y < 2 ^ 8 → bits BinOp.or IntKind.u8 (byteAt l (l.length / 8)) y = byteAt l (l.length / 8) + y := fun y i h1 h2 h3 h4 =>
    bits_join .u8 8 (by decide) wraps_u8 i _ y hb.1 h1 (by omega) h2 h3 h4
  have hm : byteAt l (l.length / 8) % 2 ^ (8 - l.length % 8) = 0 := by rw [hq]; exact Int.mul_emod_left _ _
  rcases hr with h | h | h | h | h | h | h | h <;> rw [h] at hm ⊢ <;> simp only [Nat.reduceSub] at hm ⊢
  · exact key 128 8 hm (by decide) (by decide) (by decide)
  · exact key 64 7 hm (by decide) (by decide) (by decide)
  · exact key 32 6 hm (by decide) (by decide) (by decide)
  · exact key 16 5 hm (by decide) (by decide) (by decide)
  · exact key 8 4 hm (by decide) (by decide) (by decide)
  · exact key 4 3 hm (by decide) (by decide) (by decide)
  · exact key 2 2 hm (by decide) (by decide) (by decide)
  · exact key 1 1 hm (by decide) (by decide) (by decide)
/-- Behind 'w.p[w.n/8] |= ..'. -/
theorem store_done {w : World} {g c cap i m : Nat} {P P' : List Int} {x : Int} (hb : w.heap[g]? = some (.cells #[.slice (some ⟨c, 0, none⟩) P.length cap, .int .i64 (m : Int)] 59 (0, 0)))
    (hown : w.ownsRow 0 5 1 (.slice (some ⟨c, 0, none⟩) P.length cap) P.length (P.map (Value.int .u8))) (hx : P' = P.set i x) :
    WX (w.setCell ⟨c, i, none⟩ (.int .u8 x)).drew g (some c) P' m := by
  have hne := own_ne hown hb (by decide)
  have hgc : g ≠ c := by intro e; exact hne (by rw [e]; rfl)
  refine ⟨.slice (some ⟨c, 0, none⟩) P.length cap, ?_, rfl, by intro e; exact hgc (by injection e with e; exact e.symm), ?_⟩
  · exact (blk_far _ hgc).trans hb
  · have h := hown.stored i (.int .u8 x)
    rw [hx, List.length_set, List.map_set]
    exact h.1

/-- Behind 'w.n++'. -/
theorem count_done {w : World} {g : Nat} {q : Option Nat} {l : List Bool} {b : Bool} {v : Value} (hb : w.heap[g]? = some (.cells #[v, .int .i64 (l.length : Int)] 59 (0, 0))) (hq : v.ownBlock = q) (hne : q ≠ some g)
    (hown : w.ownsRow 0 5 1 v (pack (l ++ [b])).length ((pack (l ++ [b])).map (Value.int .u8))) : WR (w.setCell ⟨g, 1, none⟩ (.int .i64 ((l.length : Int) + 1))) g q (l ++ [b]) := by
  refine ⟨v, ?_, hq, hne, own_other hown (by rw [hq]; exact hne) _⟩
  have := blk_set hb 1 (.int .i64 ((l.length : Int) + 1))
  rw [this]
  simp

def PutRel (w : World) (g : Nat) (q : Option Nat) (L : List Bool) (n : Int) (i : Value) (wr : World) : Prop :=
  ∃ (m : Nat) (l' : List Bool) (q' : Option Nat), m ≤ 64 ∧ i = .int .i64 ((m : Int) - 1) ∧ WR wr g q' l' ∧ l' ++ bitsOf n m = L ∧ Fr w wr g q ∧ Mv w q q'

set_option maxHeartbeats 400000 in
theorem put_any (n k : Int) (g : Nat) (q : Option Nat) (l : List Bool) (w : World) (hw : WR w g q l) (h0 : 0 ≤ n) (h1 : n < 18446744073709551616) (hl : l.length < 100000) :
    Calls Try.prog 13 #[.pointer (some ⟨g, 0, none⟩), .int .u64 n, .int .i64 k] w fun e w' => e = .returned (.tuple #[]) ∧ ∃ q', WR w' g q' (l ++ bitsOf n (min (max k 0) 64).toNat) ∧ Fr w w' g q ∧ Mv w q q' := by
  obtain ⟨K, hK⟩ : ∃ K : Nat, min (max k 0) 64 = (K : Int) ∧ K ≤ 64 := ⟨(min (max k 0) 64).toNat, by omega, by omega⟩
  obtain ⟨hK, hK64⟩ := hK
  rw [hK]
  have HK := Lib.hid hK
  clear hK
  have hi : ∀ wx : World, Calls Try.prog 30 #[.int .i64 k] wx fun e w' => e = .returned (.int .i64 (K : Int)) ∧ wx = w' := fun wx => by
    have := within_any k wx; rw [HK.out] at this; exact this
  have HI := Lib.hid hi
  clear hi
  go_enter Try.func13, Try.ntmps13
  go_wp2_with (go_at_call 30; refine (HI.out _).mono ?_; rintro e w' ⟨rfl, rfl⟩)
  go_loopw [6] (fun i wr => PutRel w g q (l ++ bitsOf n K) n i wr) (fun i _ => (intOf i + 1).toNat)
  case atStart => exact ⟨K, l, q, hK64, rfl, hw, rfl, Fr.refl _ _ _, .inl rfl⟩
  case round =>
    obtain ⟨m, l', q', hm, rfl, hwr, hL, hfr, hmv⟩ := hrel
    cases m with
    | zero =>
      go_wp2
      simp only [bitsOf, List.append_nil] at hL
      subst hL
      refine bodyPost_end (v := .tuple #[]) (by simp [results, Try.results13, go_sem]) rfl ⟨rfl, q', hwr, hfr, hmv⟩
    | succ j =>
      have ej : (((j + 1 : Nat) : Int) - 1) = (j : Int) := by omega
      rw [ej]
      have hll : l'.length ≤ 100100 := by have := congrArg List.length hL; simp [bitsOf_length] at this; omega
      obtain ⟨v, hb, hq1, hq2, hown⟩ := hwr
      have hqv : v.ownBlock ≠ some g := by rw [hq1]; exact hq2
      have hc0 : wr.cell? ⟨g, 0, none⟩ = some v := blk_cell hb 0
      have hc1 : wr.cell? ⟨g, 1, none⟩ = some (.int .i64 (l'.length : Int)) := blk_cell hb 1
      have hf0 : wr.frozen? ⟨g, 0, none⟩ = false := blk_frozen hb 0
      go_upto_if 21 with (fail)
      go_cut [] (fun wx => ∃ q1, WX wx g q1 (pack (l' ++ [false])) l'.length ∧ Fr wr wx g q' ∧ Mv wr q' q1)
      case first =>
        obtain ⟨i0, hi, hz0, hz1, hz2⟩ := info_parts Try.info5
        by_cases h8 : l'.length % 8 = 0
        · have e8 : ((l'.length : Int) % 8 == 0) = true := beq_iff_eq.2 (by omega)
          have hlen : (pack l').length ≤ 100100 := by rw [pack_length]; omega
          go_wp2_with (at_builtin; refine wpList_append_own_at _ rfl _ _ 33 rfl 0 5 i0 (.int .u8 0) 1 1 Try.underlying33 hi hz0 hz1 hz2 rfl (by decide) _ _ _ rfl (hown.alloc _) ⟨wr.heap.size, 0, none⟩ 1 1 [.int .u8 0] rfl rfl (cell_one_new _ _ _) (fun x hx => by simp at hx; subst hx; rfl) (by unfold maxLen; omega) (by omega) (Nat.zero_le _) ?_; intro v' w1 hown' hgrow _ hat; obtain ⟨aa, nn, cc, rfl⟩ := own_slice hown'; obtain ⟨hc3, hf3, hk⟩ := after_append hb hgrow hqv (Below.heap_alloc _ _ _); have HK := Lib.hid hk; clear hk)
          go_meet
          exact append_done HK.out hown' hgrow hat hq1 (by rw [pack_snoc_false_new _ h8]) hb
        · have e8 : ((l'.length : Int) % 8 == 0) = false := beq_eq_false_iff_ne.2 (by omega)
          go_wp2_with fail
          go_meet
          exact ⟨q', ⟨v, hb, hq1, hq2, by rw [pack_snoc_false_old _ h8]; exact hown⟩, Fr.refl _ _ _, .inl rfl⟩
      case rest =>
        clear hb hq1 hq2 hown hqv hc0 hc1 hf0
        obtain ⟨q1, ⟨v1, hb1, hq3, hq4, hown1⟩, hfr1, hmv1⟩ := hcut
        have hc0 : wc.cell? ⟨g, 0, none⟩ = some v1 := blk_cell hb1 0
        have hc1 : wc.cell? ⟨g, 1, none⟩ = some (.int .i64 (l'.length : Int)) := blk_cell hb1 1
        have hf1 : wc.frozen? ⟨g, 1, none⟩ = false := blk_frozen hb1 1
        have hand : bits BinOp.and IntKind.u64 (n / 2 ^ j) 1 = n / 2 ^ j % 2 := and_one_u64 (n / 2 ^ j) (Int.ediv_nonneg h0 (Int.pow_nonneg (by omega))) (by have := Int.ediv_le_self (2 ^ j) h0; omega)
        go_upto_if 35 with (fail)
        go_cut [] (fun wx => ∃ q2, WX wx g q2 (pack (l' ++ [n / 2 ^ j % 2 == 1])) l'.length ∧ Fr wr wx g q' ∧ Mv wr q' q2)
        case first =>
          by_cases hbit : n / 2 ^ j % 2 = 1
          · have e1 : (n / 2 ^ j % 2 == 1) = true := beq_iff_eq.2 hbit
            have hP : 0 < (pack (l' ++ [false])).length := by rw [pack_length]; simp
            obtain ⟨c, cap, rfl, hcap1, hcap2⟩ := own_open hown1 hP
            have hix : l'.length / 8 < (pack (l' ++ [false])).length := by rw [pack_length]; simp; omega
            have hcell := hown1.cellAt (l'.length / 8) (by omega)
            have hfz := hown1.frozenAt (l'.length / 8)
            rw [List.getElem?_map, pack_get _ _ (by rw [← pack_length]; exact hix), byteAt_snoc_false] at hcell
            have hi1 : 0 ≤ (l'.length : Int) / 8 := by omega
            have hi2 : (l'.length : Int) / 8 < ((pack (l' ++ [false])).length : Int) := by omega
            have hw1 : IntKind.i64.wrap ((l'.length : Int) / 8) = (l'.length : Int) / 8 := IntWalk.i64_in _ (by omega)
            have hw2 : ((l'.length : Int) / 8).toNat = l'.length / 8 := by omega
            go_wp2_with fail
            go_region
            all_goals go_wp2_with fail
            all_goals go_meet
            rw [e1]
            exact ⟨some c, store_done hb1 hown1 (by rw [or_join, ← pack_snoc_true]), Fr.drew' (hfr1.setq' hq3 hmv1 _ _), by rw [show (some c : Option Nat) = q1 from hq3]; exact hmv1⟩
          · have e1 : (n / 2 ^ j % 2 == 1) = false := beq_eq_false_iff_ne.2 hbit
            go_wp2_with fail
            go_meet
            rw [e1]
            exact ⟨q1, ⟨v1, hb1, hq3, hq4, hown1⟩, hfr1, hmv1⟩
        case rest =>
          clear hc0 hc1 hf1 hb1 hown1 hfr1 hmv1 hq3 hq4
          obtain ⟨q2, ⟨v2, hb2, hq5, hq6, hown2⟩, hfr2, hmv2⟩ := hcut
          have hc1 : wc.cell? ⟨g, 1, none⟩ = some (.int .i64 (l'.length : Int)) := blk_cell hb2 1
          have hf1 : wc.frozen? ⟨g, 1, none⟩ = false := blk_frozen hb2 1
          have HB2 := Lib.hid hb2
          clear hb2
          go_wp2
          go_roundw
          case rel => 
            exact ⟨j, l' ++ [n / 2 ^ j % 2 == 1], q2, by omega, rfl, count_done HB2.out hq5 hq6 hown2, by rw [← hL]; simp [bitsOf], hfr.trans hmv (hfr2.set 1 _), Mv.trans hfr.size hmv hmv2⟩
          case measure => simp [intOf]
end Go.Proofs.Ytcooeopcjomhoaa
