/- The laws' awake() answers true; the document's Num as a contract. -/
import Derived.Test.YtcooeopcjomhoaaRef
namespace Go.Proofs.Ytcooeopcjomhoaa
open Go.RowKit Plain

theorem Fr.below {w w' : World} {g : Nat} {q : Option Nat} {B : Nat} (h : Fr w w' g q) (hB : B ≤ w.heap.size) (hg : B ≤ g) (hq : ∀ k, q = some k → B ≤ k) : Below B w w' :=
  ⟨h.os, h.tape, h.output, h.size, fun k hk => h.block k (by omega) (by omega) (by intro e; have := hq k e.symm; omega)⟩
theorem Mv.ge {w : World} {q q' : Option Nat} {B : Nat} (h : Mv w q q') (hB : B ≤ w.heap.size) (hq : ∀ k, q = some k → B ≤ k) : ∀ k, q' = some k → B ≤ k := by
  intro k hk
  rcases h with rfl | ⟨b, rfl, hb⟩
  · exact hq k hk
  · injection hk with e; omega
theorem WR.new (w : World) : WR (w.alloc (.cells #[.slice none 0 0, .int .i64 0] 59)) w.heap.size none [] :=
  ⟨.slice none 0 0, heap_alloc_new w _, rfl, by simp, World.ownsRow_nil _ _ _ _⟩
theorem WX.below {w w' : World} {g : Nat} {q : Option Nat} {P : List Int} {m B : Nat} (h : WX w g q P m) (hb : Below B w w') (hg : g < B) (hq : ∀ k, q = some k → k < B) : WX w' g q P m := by
  obtain ⟨v, h1, h2, h3, h4⟩ := h
  refine ⟨v, (hb.block g hg).trans h1, h2, h3, ⟨h4.1, ?_⟩⟩
  rcases h4.2 with h | ⟨c, cap, cur, rfl, hbase, hh, r⟩
  · exact .inl h
  · exact .inr ⟨c, cap, cur, rfl, hbase, (hb.block c (hq c h2.symm)).trans hh, r⟩
theorem WX.lt {w : World} {g : Nat} {q : Option Nat} {P : List Int} {m : Nat} (h : WX w g q P m) : g < w.heap.size ∧ ∀ k, q = some k → k < w.heap.size := by
  obtain ⟨v, h1, h2, h3, h4⟩ := h
  exact ⟨blk_lt h1, fun k hk => (h4.lt k (by rw [h2, hk])).2⟩

theorem numBits_5 : numBits 5 = [true, false, false, false, true] := by decide
theorem pack_5 : pack [true, false, false, false, true] = [136] := by decide

set_option maxHeartbeats 400000 in
theorem awake_any (w : World) : Calls Try.prog 8 #[] w fun e w' => e = .returned (.bool true) ∧ Below w.heap.size w w' := by
  go_enter Try.func8, Try.ntmps8
  go_wp2_with fail
  refine (newWriter_any w).mono ?_
  rintro e w1 ⟨rfl, rfl⟩
  have hw0 := WR.new w
  have hb0 : Below w.heap.size w (w.alloc (.cells #[.slice none 0 0, .int .i64 0] 59)) := (Below.refl _ _).alloc (Nat.le_refl _) _
  have hs0 : (w.alloc (.cells #[.slice none 0 0, .int .i64 0] 59)).heap.size = w.heap.size + 1 := by simp
  have HS0 := Lib.hid hs0
  clear hs0
  go_wp2_with fail
  refine (wnum_any 5 _ _ [] _ hw0 (by decide) (by decide) (by decide)).mono ?_
  rintro e w2 ⟨rfl, q2, hw2, hf2, hm2⟩
  have hq2 := hm2.ge (B := w.heap.size) (by have := HS0.out; omega) (fun k hk => by simp at hk)
  have hb2 := hb0.trans (hf2.below (B := w.heap.size) (by have := HS0.out; omega) (Nat.le_refl _) (fun k hk => by simp at hk))
  clear hf2 hm2 hb0
  rw [List.nil_append, numBits_5] at hw2
  unfold WR at hw2
  rw [pack_5] at hw2
  go_wp2_with fail
  refine (bytes_any w2 (by decide) hw2).mono ?_
  rintro e w3 ⟨v3, rfl, hown3, hb3⟩
  have hw3 := hw2.below hb3 hw2.lt.1 hw2.lt.2
  have hb4 := hb2.trans (hb3.mono hb2.size)
  obtain ⟨c, cap, rfl, hc1, hc2⟩ := own_open hown3 (by decide)
  have hc := hown3.cellAt 0 (by decide)
  go_wp2_with (go_at_call 12; refine (len_any _ hw3).mono ?_; rintro e w' ⟨rfl, rfl⟩)
  go_ret
  exact ⟨rfl, hb4⟩

theorem rnum_any (n : Int) (w : World) (h0 : 0 ≤ n) (h1 : n < 18446744073709551616) :
    Calls Try.prog 11 #[.slice none 0 0, .int .u64 n] w fun e w' => ∃ v, e = .returned v ∧ w'.ownsRow w.heap.size 4 1 v (numBits n).length ((numBits n).map Value.bool) ∧ Below w.heap.size w w' :=
  (PBitsNums.kinfolkref05_Num.calls 224 (fun _ => True) none 0 [] n (numBits n) w (YtcooeopcjomhoaaW.PrintWords.Kd.V_nil _ _ _ _ _) (by simpa using rnum_eq [] n h0 h1 (by decide))).mono
    fun _ _ ⟨v, he, hr, hb⟩ => ⟨v, he, YtcooeopcjomhoaaW.PrintWords.Kd.own_of_R hr, hb⟩
end Go.Proofs.Ytcooeopcjomhoaa
