/- The law BitsReads answers true. -/
import Derived.Test.YtcooeopcjomhoaaXBits
import Derived.Test.YtcooeopcjomhoaaNilWalk
import Derived.Deep.RegionHeld3
namespace Go.Proofs.Ytcooeopcjomhoaa
open Go.RowKit Plain

/-- What is to be done that came in: of each what, the number, how many bits. -/
def InA (w : World) (v : Value) (acts : List (Int × Int × Int)) : Prop :=
  (acts = [] ∧ ∃ a c, v = .slice a 0 c) ∨ ∃ b off cap, v = .slice (some ⟨b, off, none⟩) acts.length cap ∧ acts.length ≤ cap ∧ b < w.heap.size ∧
    ∀ i, i < acts.length → w.cell? ⟨b, off + i * 3, none⟩ = some (.int .u8 (acts.getD i (0, 0, 0)).1) ∧ w.cell? ⟨b, off + i * 3 + 1, none⟩ = some (.int .u64 (acts.getD i (0, 0, 0)).2.1) ∧ w.cell? ⟨b, off + i * 3 + 2, none⟩ = some (.int .i64 (acts.getD i (0, 0, 0)).2.2)
theorem InA.slice {w : World} {v : Value} {acts : List (Int × Int × Int)} (h : InA w v acts) : ∃ a c, v = .slice a acts.length c := by
  rcases h with ⟨rfl, a, c, rfl⟩ | ⟨b, off, cap, rfl, _⟩
  · exact ⟨_, _, rfl⟩
  · exact ⟨_, _, rfl⟩

/-- A new reader of the document's. -/
theorem RX.new {w : World} {B n c : Nat} {a : Option Addr} {l : List Bool} (h : w.ownsRow B 4 1 (.slice a n c) n (l.map Value.bool)) (hn : n = l.length) :
    RX (w.alloc (.cells #[.slice a n c, .int .i64 0] 44)) B w.heap.size l 0 := by
  subst hn
  refine ⟨_, heap_alloc_new w _, ?_, fun k hk => h.lt k hk⟩
  by_cases hl : 0 < l.length
  · obtain ⟨c', cap, hv, h1, _, _, h3, h4⟩ := bools_cell h hl
    refine .inr ⟨c', 0, cap, hv, h1, by simp; omega, fun i hi => ?_⟩
    rw [Nat.zero_add]
    exact (World.cell?_of_block (a := ⟨c', i, none⟩) (Below.heap_alloc _ _ _ h3)).trans (h4 i hi)
  · exact .inl ⟨List.eq_nil_of_length_eq_zero (by omega), _, _, by rw [show l.length = 0 by omega]⟩
theorem RX.lt {w : World} {lo g : Nat} {l : List Bool} {e : Int} (h : RX w lo g l e) : g < w.heap.size := by
  obtain ⟨v, h1, _⟩ := h
  exact blk_lt h1
theorem RX.below {w w' : World} {lo g : Nat} {l : List Bool} {e : Int} {B : Nat} (h : RX w lo g l e) (hb : Below B w w') (hg : g < B) : RX w' lo g l e := by
  obtain ⟨v, h1, h2, h3⟩ := h
  exact ⟨v, (hb.block g hg).trans h1, h2.below hb (fun k hk => by have := h3 k hk; omega), h3⟩
theorem RX.fr' {w w' : World} {lo g g' : Nat} {l : List Bool} {e : Int} (h : RX w lo g l e) (hf : Fr w w' g' none) (hg : g' < lo) (hlo : lo ≤ g) : RX w' lo g l e := by
  obtain ⟨v, h1, h2, h3⟩ := h
  exact ⟨v, (hf.block g (blk_lt h1) (by omega) (by simp)).trans h1, h2.fr hf (fun hk => by have := h3 _ hk; omega), h3⟩
theorem getR_le {P : List Int} {m : Nat} {e : Int} {K : Nat} (hm : m ≤ 8 * P.length) : (getR P m e K).2.1 ≤ 8 * P.length := by
  unfold getR
  split
  · split
    · assumption
    · exact hm
  · exact hm
theorem numS_le {l : List Bool} {x : Int} {d : Nat} (h : numS l = some (x, d)) : d ≤ l.length := by
  unfold numS at h
  simp only at h
  split at h
  · rename_i hc
    split at h
    · injection h with h
      injection h with _ h
      omega
    · simp at h
  · simp at h
theorem numR_le {P : List Int} {m : Nat} {e : Int} (hm : m ≤ 8 * P.length) : (numR P m e).2.1 ≤ 8 * P.length := by
  unfold numR
  split
  · split
    · rename_i h
      have := numS_le h
      rw [rest_length] at this
      simp only
      omega
    · exact hm
  · exact hm
/-- Behind what was read: both readers are alike. -/
def Alike (w : World) (lo g lo2 gx : Nat) (P : List Int) (s9 : Value) (wr : World) : Prop :=
  s9 = .bool true ∧ ∃ (m : Nat) (e : Int), m ≤ 8 * P.length ∧ RD wr lo g P m e ∧ RX wr lo2 gx (rest P m) e ∧ Below w.heap.size w wr

def ReadsRel (w : World) (lo g lo2 gx : Nat) (P : List Int) (n : Nat) (u26 : Value) (wr : World) : Prop :=
  ∃ (i m : Nat) (e : Int), i ≤ n ∧ u26 = .int .i64 (i : Int) ∧ m ≤ 8 * P.length ∧ RD wr lo g P m e ∧ RX wr lo2 gx (rest P m) e ∧ Below w.heap.size w wr

set_option maxHeartbeats 2000000 in
set_option maxRecDepth 100000 in
theorem reads_any (v v2 : Value) (ys : List Int) (acts : List (Int × Int × Int)) (w : World) (hp : InB w v ys) (hb : ∀ x ∈ ys, 0 ≤ x ∧ x ≤ 255) (hl : ys.length ≤ 9223372036854775807)
    (ha : InA w v2 acts) (hal : acts.length ≤ 9223372036854775807) (had : ∀ x ∈ acts, 0 ≤ x.1 ∧ x.1 ≤ 255) :
    Calls Try.prog 5 #[v, v2] w fun e w' => e = .returned (.bool true) ∧ Below w.heap.size w w' := by
  obtain ⟨a, c, rfl⟩ := hp.slice
  obtain ⟨a2, c2, rfl⟩ := ha.slice
  have HA := Lib.hid ha
  clear ha
  go_enter Try.func5, Try.ntmps5
  go_upto_region 3 with (go_at_call 8; refine (awake_any w).mono ?_; rintro e w0 ⟨rfl, hbw⟩)
  go_cut [0] (fun s0 wx => Cloned w (ys.take 60) s0 wx)
  case first =>
    rcases hp with hp | ⟨x, c', hx, rfl⟩
    case inr =>
      simp only [Value.slice.injEq] at hx
      obtain ⟨rfl, _, rfl⟩ := hx
      go_wp2_with fail
      refine (clone_empty x c _).mono ?_
      rintro e w1 ⟨v', rfl, hown, hbel⟩
      go_wp2_with fail
      go_meet
      exact ⟨_, hbw.size, hown, hbw.trans (hbel.mono hbw.size)⟩
    have hp0 : RB w0 (.slice a ys.length c) ys := hp.below hbw (fun k hk => by
      rcases hp with ⟨h, _⟩ | ⟨b, off, cap, h, _, h2, _⟩
      · rw [h] at hk; simp [Value.ownBlock] at hk
      · rw [h] at hk; simp [Value.ownBlock] at hk; omega)
    rcases hp0 with ⟨h, rfl⟩ | ⟨b, off, cap, h, h1, h2, h3⟩
    · simp only [Value.slice.injEq] at h
      obtain ⟨rfl, _, rfl⟩ := h
      go_wp2_with fail
      refine (clone_nil _).mono ?_
      rintro e w' ⟨rfl, rfl⟩
      go_wp2_with fail
      go_meet
      exact ⟨w.heap.size, Nat.le_refl _, World.ownsRow_nil _ _ _ _, hbw⟩
    · simp only [Value.slice.injEq] at h
      obtain ⟨rfl, _, rfl⟩ := h
      have hmk : ∀ (n : Nat), n = (ys.take 60).length → RB w0 (.slice (some ⟨b, off, none⟩) n c) (ys.take 60) := fun n hn => by
        subst hn
        refine .inr ⟨b, off, c, rfl, by simp; omega, h2, fun j u hj => h3 j u ?_⟩
        rw [List.getElem?_take] at hj
        split at hj
        · exact hj
        · simp at hj
      have HM := Lib.hid hmk
      clear hmk
      by_cases h20 : ys.length ≤ 60
      · have hcl := clone_any w0 (by simp; omega) (HM.out ys.length (by simp; omega))
        have HC := Lib.hid hcl
        clear hcl h3
        go_wp2_with fail
        refine HC.out.mono ?_
        rintro e w1 ⟨v', rfl, hown, hbel⟩
        go_wp2_with fail
        go_meet
        exact ⟨_, hbw.size, hown, hbw.trans (hbel.mono hbw.size)⟩
      · have hcl := clone_any w0 (by simp; omega) (HM.out 60 (by simp; omega))
        have HC := Lib.hid hcl
        clear hcl h3
        go_wp2_with fail
        refine HC.out.mono ?_
        rintro e w1 ⟨v', rfl, hown, hbel⟩
        go_wp2_with fail
        go_meet
        exact ⟨_, hbw.size, hown, hbw.trans (hbel.mono hbw.size)⟩
  case rest =>
    obtain ⟨B, hB, hown, hbw⟩ := hcut
    have hbt : ∀ x ∈ ys.take 60, 0 ≤ x ∧ x ≤ 255 := fun x hx => hb x (List.mem_of_mem_take hx)
    have hlt : (ys.take 60).length ≤ 60 := List.length_take_le _ _
    clear hp hb hl
    generalize ys.take 60 = Y at *
    obtain ⟨a0, c0, rfl⟩ := own_shape hown
    have hrb := RB.of_own hown
    have hob : ∀ k, (Value.slice a0 Y.length c0).ownBlock = some k → B ≤ k ∧ k < wc.heap.size := hown.lt
    go_wp2_with fail
    refine (newReader_any wc (by omega) hrb).mono ?_
    rintro e w1 ⟨g1, rfl, hr1, hg1, hb1⟩
    have hrb1 := hrb.below hb1 (fun k hk => (hob k hk).2)
    have hbw1 := hbw.trans (hb1.mono hbw.size)
    have hws := hbw.size
    clear hrb hbw hown
    go_wp2_with fail
    refine (xbits_any w1 hrb1 hbt (by omega)).mono ?_
    rintro e w2 ⟨v2, rfl, hown2, hb2⟩
    have hr2 := hr1.below hb2 hr1.lt
    have hl1 := hr1.lt
    have hbw2 := hbw1.trans (hb2.mono hbw1.size)
    have hs2 := hb2.size
    clear hb1 hb2 hbw1 hrb1 hr1 hob
    obtain ⟨a4, c4, rfl⟩ := own_shape hown2
    have hx := RX.new hown2 (ub_length Y).symm
    have hr3 := hr2.below ((Below.refl w2.heap.size w2).alloc (Nat.le_refl _) (.cells #[.slice a4 (8 * Y.length) c4, .int .i64 0] 44)) hr2.lt
    have hb3 := hbw2.alloc hbw2.size (.cells #[.slice a4 (8 * Y.length) c4, .int .i64 0] 44)
    have hrl := hr3.lt
    have hs3 : (w2.alloc (.cells #[.slice a4 (8 * Y.length) c4, .int .i64 0] 44)).heap.size = w2.heap.size + 1 := by simp
    go_wp2_with fail
    generalize w2.alloc (.cells #[.slice a4 (8 * Y.length) c4, .int .i64 0] 44) = w3 at *
    obtain ⟨gx, hgx⟩ : ∃ gx, w2.heap.size = gx := ⟨_, rfl⟩
    rw [hgx] at hx hs3 ⊢
    clear hown2 hr2 hbw2
    have hx : RX w3 w1.heap.size gx (rest Y 0) 0 := hx
    go_loopw [26] (fun u26 wr => ReadsRel w wc.heap.size g1 w1.heap.size gx Y acts.length u26 wr) (fun u26 _ => acts.length - (intOf u26).toNat)
    case atStart => exact ⟨0, 0, 0, Nat.zero_le _, rfl, Nat.zero_le _, hr3, hx, hb3⟩
    case round =>
      clear hr3 hx hb3
      obtain ⟨i, m, e, hi, rfl, hm, hr, hx, hbel⟩ := hrel
      by_cases hin : i < acts.length
      · rcases HA.out with ⟨h, _⟩ | ⟨b, off, cap, hv, hcap, hblt, hcells⟩
        · rw [h] at hin; simp at hin
        simp only [Value.slice.injEq, true_and] at hv
        obtain ⟨rfl, rfl⟩ := hv
        obtain ⟨h0, h1, h2⟩ := hcells i hin
        have hd := had (acts.getD i (0, 0, 0)) (by rw [List.getD_eq_getElem?_getD, List.getElem?_eq_getElem hin]; exact List.getElem_mem _)
        generalize acts.getD i (0, 0, 0) = act at *
        obtain ⟨d, nn, k⟩ := act
        have c0 := (hbel.cell (p := ⟨b, off + i * 3, none⟩) hblt).trans h0
        have c1 := (hbel.cell (p := ⟨b, off + i * 3 + 1, none⟩) hblt).trans h1
        have c2 := (hbel.cell (p := ⟨b, off + i * 3 + 2, none⟩) hblt).trans h2
        clear hcells h0 h1 h2
        dsimp only at c0 c1 c2 hd
        by_cases h40 : 40 ≤ i
        · go_wp2_with fail
          go_ret
          exact ⟨rfl, hbel.alloc hbel.size _⟩
        have hr0 := hr.below ((Below.refl wr.heap.size wr).alloc (Nat.le_refl _) (.cells #[.int .u8 d, .int .u64 nn, .int .i64 k] 46)) hr.lt
        have hx0 := hx.below ((Below.refl wr.heap.size wr).alloc (Nat.le_refl _) (.cells #[.int .u8 d, .int .u64 nn, .int .i64 k] 46)) hx.lt
        have hb0 := hbel.alloc hbel.size (.cells #[.int .u8 d, .int .u64 nn, .int .i64 k] 46)
        have hk0 : (wr.alloc (.cells #[.int .u8 d, .int .u64 nn, .int .i64 k] 46)).cell? ⟨wr.heap.size, 2, none⟩ = some (.int .i64 k) := blk_cell (heap_alloc_new wr _) 2
        have hCW : wr.heap.size < (wr.alloc (.cells #[.int .u8 d, .int .u64 nn, .int .i64 k] 46)).heap.size := by simp
        have hd3 : d % 3 = 0 ∨ d % 3 = 1 ∨ d % 3 = 2 := by omega
        have hxl := hx.lt
        have hxr : g1 < wr.heap.size := hr.lt
        have hlr : (rest Y m).length ≤ 1000000 := by rw [rest_length]; omega
        have hbs := hb0.size
        have hgr := hr0.lt
        have hgoal : ∀ (R : Int × Nat × Int), R.2.1 ≤ 8 * Y.length → True := fun _ _ => trivial
        clear hgoal
        rcases hd3 with hd3 | hd3 | hd3
        case' neg.inr.inr =>
          go_wp2_with fail
          clear c0 c1 c2 HA hbel hr hx
          refine (end_any _ hr0 (by omega) hbt hm).mono ?_
          rintro eA wA ⟨rfl, hrA, hfA⟩
          have hxA := hx0.fr' hfA (by omega) (by omega)
          have hbA := hb0.trans (hfA.below (B := w.heap.size) hb0.size (by omega) (by simp))
          go_wp2_with fail
          refine (xend_any _ hxA hlr).mono ?_
          rintro eB wB ⟨rfl, hxB, hfB⟩
          have hrB := hrA.fr hfB (.inl (by omega)) (by omega)
          have hbB := hbA.trans (hfB.below (B := w.heap.size) hbA.size (by omega) (by simp))
          rw [xend_same] at hxB ⊢
          clear hrA hxA hfA hfB hbA
          generalize endR Y m e = e2 at *
          obtain ⟨m2, hm2, hrB, hxB⟩ : ∃ m2, m2 ≤ 8 * Y.length ∧ RD wB wc.heap.size g1 Y m2 e2 ∧ RX wB w1.heap.size gx (rest Y m2) e2 := ⟨m, hm, hrB, hxB⟩
        case' neg.inr.inl =>
          go_wp2_with fail
          clear c0 c1 c2 HA hbel hr hx
          refine (rdnum_any _ hr0 (by omega) hbt hm).mono ?_
          rintro eA wA ⟨rfl, hrA, hfA⟩
          have hxA := hx0.fr' hfA (by omega) (by omega)
          have hbA := hb0.trans (hfA.below (B := w.heap.size) hb0.size (by omega) (by simp))
          go_wp2_with fail
          refine (xnum_any _ hxA hlr).mono ?_
          rintro eB wB ⟨rfl, hxB, hfB⟩
          have hrB := hrA.fr hfB (.inl (by omega)) (by omega)
          have hbB := hbA.trans (hfB.below (B := w.heap.size) hbA.size (by omega) (by simp))
          have hm2 := numR_le (e := e) hm
          rw [xnum_same] at hxB ⊢
          clear hrA hxA hfA hfB hbA
          generalize numR Y m e = R at *
          obtain ⟨r2, m2, e2⟩ := R
          dsimp only at hrB hxB hm2 ⊢
        case' neg.inl =>
          go_upto_region 13 with (fail)
          clear c0 c1 c2 HA hbel hr hx
          have hr0 : RD (wr.alloc (.cells #[.int .u8 d, .int .u64 nn, .int .i64 k] 46)).drew wc.heap.size g1 Y m e := hr0
          have hx0 : RX (wr.alloc (.cells #[.int .u8 d, .int .u64 nn, .int .i64 k] 46)).drew w1.heap.size gx (rest Y m) e := hx0
          have hb0 : Below w.heap.size w (wr.alloc (.cells #[.int .u8 d, .int .u64 nn, .int .i64 k] 46)).drew := below_drewN' hb0 1
          generalize wr.alloc (.cells #[.int .u8 d, .int .u64 nn, .int .i64 k] 46) = W at *
          generalize wr.heap.size = C at *
          go_region_held3 (fun w' => w'.cell? ⟨C, 2, none⟩ = some (.int .i64 k)) (first | exact hk0 | exact hkA | exact hkC)
            (first
              | (go_at_call 17; refine (get_any k W.drew hr0 (by omega) hbt hm).mono ?_; rintro eA wA ⟨rfl, hrA, hfA⟩; have hkA := (World.cell?_of_block (a := ⟨C, 2, none⟩) (hfA.block C hCW (by omega) (by simp))).trans hk0; have hxA := hx0.fr' hfA (by omega) (by omega))
              | (go_at_call 21; refine (xget_any k _ hxA hlr).mono ?_; rintro eB wB ⟨rfl, hxB, hfB⟩; have hkC := (World.cell?_of_block (a := ⟨C, 2, none⟩) (hfB.block C (Nat.lt_of_lt_of_le hCW hfA.size) (by omega) (by simp))).trans hkA; have hrB := hrA.fr hfB (.inl (by omega)) (by omega)))
          have hbA := hb0.trans (hfA.below (B := w.heap.size) hb0.size (by omega) (by simp))
          have hbB := hbA.trans (hfB.below (B := w.heap.size) hbA.size (by omega) (by simp))
          have hm2 := getR_le (e := e) (K := clampK k) hm
          rw [xget_same _ _ _ _ hm] at hxB ⊢
          clear hrA hxA hfA hfB hbA hkA hkC
          generalize getR Y m e (clampK k) = R at *
          obtain ⟨r2, m2, e2⟩ := R
          dsimp only at hrB hxB hm2
        all_goals
          clear hr0 hx0 hb0 hk0
          go_upto_region 16 with (fail)
          have HL := Lib.hid (fun n => left_any (wB.drewN n) (hrB.drewN n) (by omega) hm2)
          have HE := Lib.hid (fun n => (err_any (wB.drewN n) (hrB.drewN n)).mono (R' := fun e' w' => e' = .returned (.int .i64 e2) ∧ w' = wB.drewN n) fun _ _ h => ⟨h.1, h.2.symm⟩)
          have HX := Lib.hid hxB
          obtain ⟨vx, hbx, hrx, _⟩ := hxB
          obtain ⟨ax, cx, rfl⟩ := hrx.slice
          have hcx0 : wB.cell? ⟨gx, 0, none⟩ = some (.slice ax (8 * Y.length - m2) cx) := (blk_cell hbx 0).trans (by rw [rest_length]; rfl)
          have hcx1 : wB.cell? ⟨gx, 1, none⟩ = some (.int .i64 e2) := blk_cell hbx 1
          clear hbx hrx
          go_quiet ((first | (go_at_call 26; exact Calls.quiet_of_same (HE.out _)) | (go_at_call 18; exact Calls.quiet_of (HL.out _))))
          go_wp2_with fail
          go_roundw
          case rel => exact ⟨i + 1, m2, e2, by omega, by go_num, hm2, hrB.drewN nq, HX.out.drewN nq, below_drewN' hbB nq⟩
          case measure => simp [intOf]; omega
      · obtain rfl : i = acts.length := by omega
        go_wp2_with fail
        go_ret
        exact ⟨rfl, hbel⟩
end Go.Proofs.Ytcooeopcjomhoaa
