/- The bit reader's NewReader, Left, Err, fail, Get. -/
import Derived.Test.YtcooeopcjomhoaaAwake
namespace Go.Proofs.Ytcooeopcjomhoaa
open Go.RowKit Plain

/-- A reader's block g: its bytes P, its place m, its error e. -/
def RD (w : World) (lo g : Nat) (P : List Int) (m : Nat) (e : Int) : Prop :=
  ∃ v, w.heap[g]? = some (.cells #[v, .int .i64 (m : Int), .int .i64 e] 62 (0, 0)) ∧ RB w v P ∧ ∀ k, v.ownBlock = some k → lo ≤ k ∧ k < g

/-- The number that bits are, the highest first. -/
def valOf (l : List Bool) : Int := l.foldl (fun n b => 2 * n + bv b) 0
theorem valOf_snoc (l : List Bool) (b : Bool) : valOf (l ++ [b]) = 2 * valOf l + bv b := by simp [valOf]
theorem val_bound : ∀ (l : List Bool) (n : Int) (k : Nat), 0 ≤ n → n < 2 ^ k → 0 ≤ l.foldl (fun n b => 2 * n + bv b) n ∧ l.foldl (fun n b => 2 * n + bv b) n < 2 ^ (k + l.length)
  | [], n, k, h0, h1 => ⟨h0, h1⟩
  | b :: l, n, k, h0, h1 => by
    have hb := bv_cases b
    have e : (2 : Int) ^ (k + 1) = 2 ^ k * 2 := rfl
    have := val_bound l (2 * n + bv b) (k + 1) (by omega) (by rw [e]; omega)
    rw [List.foldl_cons, List.length_cons, show k + (l.length + 1) = k + 1 + l.length by omega]
    exact this
theorem valOf_bound (l : List Bool) : 0 ≤ valOf l ∧ valOf l < 2 ^ l.length := by
  have := val_bound l 0 0 (by decide) (by decide)
  rw [Nat.zero_add] at this
  exact this

theorem err_nil (w : World) : Calls Try.prog 26 #[.pointer none] w fun e w' => e = .returned (.int .i64 2) ∧ w = w' := by
  go_enter Try.func26, Try.ntmps26
  go_wp2
  go_ret
  exact ⟨rfl, rfl⟩
theorem err_any {lo g : Nat} {P : List Int} {m : Nat} {e : Int} (w : World) (h : RD w lo g P m e) : Calls Try.prog 26 #[.pointer (some ⟨g, 0, none⟩)] w fun e' w' => e' = .returned (.int .i64 e) ∧ w = w' := by
  obtain ⟨v, hb, _, _⟩ := h
  have hc2 : w.cell? ⟨g, 2, none⟩ = some (.int .i64 e) := blk_cell hb 2
  go_enter Try.func26, Try.ntmps26
  go_wp2
  go_ret
  exact ⟨rfl, rfl⟩
theorem left_nil (w : World) : Calls Try.prog 18 #[.pointer none] w fun e w' => e = .returned (.int .i64 0) ∧ w = w' := by
  go_enter Try.func18, Try.ntmps18
  go_wp2
  go_ret
  exact ⟨rfl, rfl⟩
theorem RB.slice {w : World} {v : Value} {P : List Int} (h : RB w v P) : ∃ a c, v = .slice a P.length c := by
  rcases h with ⟨rfl, rfl⟩ | ⟨b, off, cap, rfl, _⟩
  · exact ⟨_, _, rfl⟩
  · exact ⟨_, _, rfl⟩
set_option maxHeartbeats 400000 in
theorem left_any {lo g : Nat} {P : List Int} {m : Nat} {e : Int} (w : World) (h : RD w lo g P m e) (hP : P.length ≤ 1000000) (hm : m ≤ 8 * P.length) :
    Calls Try.prog 18 #[.pointer (some ⟨g, 0, none⟩)] w fun e' w' => e' = .returned (.int .i64 ((8 * P.length - m : Nat) : Int)) ∧ ∃ n, w' = w.drewN n := by
  obtain ⟨v, hb, hr, _⟩ := h
  obtain ⟨a, c, rfl⟩ := hr.slice
  have hc0 : w.cell? ⟨g, 0, none⟩ = some (.slice a P.length c) := blk_cell hb 0
  have hc1 : w.cell? ⟨g, 1, none⟩ = some (.int .i64 (m : Int)) := blk_cell hb 1
  have hw1 : IntKind.i64.wrap (8 * (P.length : Int)) = 8 * (P.length : Int) := IntWalk.i64_in _ (by omega)
  have hw2 : IntKind.i64.wrap (8 * (P.length : Int) - m) = 8 * (P.length : Int) - m := IntWalk.i64_in _ (by omega)
  go_enter Try.func18, Try.ntmps18
  go_wp2_with fail
  go_quiet (fail)
  go_wp2_with fail
  go_ret
  exact ⟨ret_int (by omega), nq, rfl⟩
theorem fail_nil (w : World) : Calls Try.prog 31 #[.pointer none] w fun e w' => e = .returned (.int .u64 0) ∧ w = w' := by
  go_enter Try.func31, Try.ntmps31
  go_wp2
  go_ret
  exact ⟨rfl, rfl⟩
theorem RD.set_err {w : World} {lo g : Nat} {P : List Int} {m : Nat} {e : Int} (h : RD w lo g P m e) (e' : Int) : RD (w.setCell ⟨g, 2, none⟩ (.int .i64 e')) lo g P m e' := by
  obtain ⟨v, hb, hr, hne⟩ := h
  refine ⟨v, by rw [blk_set hb 2]; simp, ?_, hne⟩
  rcases hr with hr | ⟨b, off, cap, rfl, h1, h2, h3⟩
  · exact .inl hr
  · have hgb : b ≠ g := by have := (hne b rfl).2; omega
    exact .inr ⟨b, off, cap, rfl, h1, by simpa [World.setCell] using h2, fun j u hj => (World.cell?_of_block (blk_far _ hgb)).trans (h3 j u hj)⟩
set_option maxHeartbeats 400000 in
theorem fail_any {lo g : Nat} {P : List Int} {m : Nat} {e : Int} (w : World) (h : RD w lo g P m e) :
    Calls Try.prog 31 #[.pointer (some ⟨g, 0, none⟩)] w fun e' w' => e' = .returned (.int .u64 0) ∧ RD w' lo g P m (if e = 0 then 6 else e) ∧ Fr w w' g none := by
  have H := Lib.hid h
  obtain ⟨v, hb, _, _⟩ := h
  have hc2 : w.cell? ⟨g, 2, none⟩ = some (.int .i64 e) := blk_cell hb 2
  have hf2 : w.frozen? ⟨g, 2, none⟩ = false := blk_frozen hb 2
  by_cases he : e = 0
  · subst he
    go_enter Try.func31, Try.ntmps31
    go_wp2
    go_ret
    exact ⟨rfl, H.out.set_err 6, (Fr.refl _ _ _).set 2 _⟩
  · rw [if_neg he]
    go_enter Try.func31, Try.ntmps31
    go_wp2
    go_ret
    exact ⟨rfl, H.out, Fr.refl _ _ _⟩

theorem newReader_any {v : Value} {ys : List Int} (w : World) (hl : ys.length ≤ 140737488355328) (h : RB w v ys) :
    Calls Try.prog 16 #[v] w fun e w' => ∃ g, e = .returned (.pointer (some ⟨g, 0, none⟩)) ∧ RD w' w.heap.size g ys 0 0 ∧ w.heap.size ≤ g ∧ Below w.heap.size w w' := by
  obtain ⟨a, c, rfl⟩ := h.slice
  go_enter Try.func16, Try.ntmps16
  go_wp2_with (go_at_call 19; refine (clone_any _ hl h).mono ?_; rintro e w1 ⟨v', rfl, hown, hbel⟩; obtain ⟨a', n', c', rfl⟩ := own_slice hown)
  go_ret
  refine ⟨_, rfl, ⟨_, heap_alloc_new w1 _, RB.below (RB.of_own hown) (B := w1.heap.size) ((Below.refl _ _).alloc (Nat.le_refl _) _) (fun k hk => (hown.lt k hk).2), ?_⟩, hbel.size, hbel.alloc hbel.size _⟩
  exact fun k hk => ⟨(hown.lt k hk).1, (hown.lt k hk).2⟩
end Go.Proofs.Ytcooeopcjomhoaa
