/- id.Parse. (Printed by wip/ids/parse.py.) -/
import Derived.Test.YtigkjmfkpmehlaaRid
namespace Go.Proofs.Ytigkjmfkpmehlaa
open Go.RowKit

/-- What Parse comes to. -/
def parseR (l : List UInt8) : T × Int :=
  let r := rid (l.length + 1) l false
  if r.2.2 = true ∨ r.2.1 ≠ [] then (.z, 6) else if 16 < r.1.depth then (.z, 3) else (r.1, 0)
theorem rid_depth : ∀ (f : Nat) (l : List UInt8) (b : Bool), (rid f l b).1.depth ≤ l.length
  | 0, l, true => by simp [rid, T.depth]
  | f + 1, l, true => by simp [rid, T.depth]
  | 0, l, false => by simp [rid, T.depth]
  | f + 1, l, false => by
    rw [rid]
    split
    · simp [T.depth]
    · split
      · simp [T.depth]
      · split
        · rename_i hk
          have hl := congrArg List.length (tk_yes hk)
          simp only [List.length_cons] at hl
          have h1 := rid_depth f (tk 40 l).1 false
          have g1 := rid_len f (tk 40 l).1 false
          simp only
          generalize rid f (tk 40 l).1 false = r1 at *
          generalize hm : (if r1.2.2 = true then (r1.2.1, true) else ((tk 44 r1.2.1).1, !(tk 44 r1.2.1).2)) = m
          have hm1 : m.1.length ≤ r1.2.1.length := by
            subst hm
            split
            · simp
            · exact tk_len _ _
          have h2 := rid_depth f m.1 m.2
          have h3 := T.pair_depth r1.1 (rid f m.1 m.2).1
          omega
        · simp [T.depth]

set_option maxHeartbeats 1600000 in
theorem parse_any (l : List UInt8) (w : World) (hl : l.length ≤ 100000) : Calls Try.prog 27 #[.string (bs l)] w fun e w' => ∃ v, e = .returned (.tuple #[v, .int .i64 (parseR l).2]) ∧ IDV w' (parseR l).1 v ∧ Below w.heap.size w w' := by
  have hd := rid_depth (l.length + 1) l false
  have hi := rid_any (l.length + 1) l false (by omega)
  unfold RidOk at hi
  unfold parseR
  obtain ⟨⟨tI, lI, bI⟩, hr⟩ : ∃ r, rid (l.length + 1) l false = r := ⟨_, rfl⟩
  rw [hr] at hi hd ⊢
  have hdep : tI.depth ≤ 1000000 := by simp only at hd; omega
  have I := Lib.hid hi
  clear hr hi hd
  cases bI with
  | true =>
    rw [if_pos (.inl rfl)]
    have b1 := (Bx.new w false none).alloc (.cells #[.string (bs l), .bool false] 89)
    have hR : Rd ((w.alloc (.cells #[.bool false, .pointer none] 31)).alloc (.cells #[.string (bs l), .bool false] 89)) (w.heap.size + 1) (bs l) false := new_at (asz _ _) _
    have hb : Below w.heap.size w ((w.alloc (.cells #[.bool false, .pointer none] 31)).alloc (.cells #[.string (bs l), .bool false] 89)) := bel1 _ _ _
    go_enter Try.func27, Try.ntmps27
    go_upto_region 2 with (fail)
    generalize (w.alloc (.cells #[.bool false, .pointer none] 31)).alloc (.cells #[.string (bs l), .bool false] 89) = w3 at *
    obtain ⟨B, hBB⟩ : ∃ B, w.heap.size = B := ⟨_, rfl⟩
    obtain ⟨R, hRR⟩ : ∃ R, B + 1 = R := ⟨_, rfl⟩
    rw [hBB] at b1 hR hb ⊢
    rw [hRR] at hR ⊢
    have hBR : B ≤ R := by omega
    go_upto_region 3 with (go_at_call 58; refine Calls.mono (I.out R _ hR) ?_; rintro e wn ⟨v, rfl, hv, hR1, hk⟩; obtain ⟨oI, qI, rfl, hoI⟩ := hv.shape'; have HI := Lib.hid hv; clear hv; have b1 := b1.but hR hk; have hb := hb.trans (hk.below hBR (by have := hR.lt; omega)); have hR := hR1; clear hR1 hk)
    have b2 := Bx.new wn oI qI
    have hEB : wn.heap.size ≠ B := b1.ne
    have hER : wn.heap.size ≠ R := hR.ne
    have b1 := b1.alloc (.cells #[.bool oI, .pointer qI] 31)
    have hR := hR.alloc (.cells #[.bool oI, .pointer qI] 31)
    have HI := Lib.hid (HI.out.alloc (.cells #[.bool oI, .pointer qI] 31))
    have hb := hb.alloc (by have := b1.lt; have := hb.size; omega) (.cells #[.bool oI, .pointer qI] 31)
    generalize wn.alloc (.cells #[.bool oI, .pointer qI] 31) = wz at *
    obtain ⟨E, hE⟩ : ∃ E, wn.heap.size = E := ⟨_, rfl⟩
    rw [hE] at b2 hEB hER ⊢
    have rc0 := hR.c0
    have rc1 := hR.c1
    have c10 := b1.c0
    have c11 := b1.c1
    have f10 := b1.f0
    have f11 := b1.f1
    have n1 := b1.ne
    have l1 := b1.lt
    have c20 := b2.c0
    have c21 := b2.c1
    have f20 := b2.f0
    have f21 := b2.f1
    have n2 := b2.ne
    have l2 := b2.lt
    go_wp2_with (first
      | (go_at_call 21; refine Calls.mono (zero_any _) ?_; rintro e wn ⟨v, rfl, rfl, hk⟩; have b1 := b1.below hk; have b2 := b2.below hk; have hb := hb.trans (hk.mono (by have := hb.size; omega)); clear c10 c11 f10 f11 n1 l1 c20 c21 f20 f21 n2 l2; have c10 := b1.c0; have c11 := b1.c1; have f10 := b1.f0; have f11 := b1.f1; have n1 := b1.ne; have l1 := b1.lt; have c20 := b2.c0; have c21 := b2.c1; have f20 := b2.f0; have f21 := b2.f1; have n2 := b2.ne; have l2 := b2.lt; clear hk))
    exact bodyPost_ret (v := .tuple #[.agg #[.bool false, .pointer none], .int .i64 6]) (by simp [results, go_sem, *]) rfl ⟨_, rfl, rfl, by first | exact bput hb (by omega) false none | (rw [← hBB] at hb; exact bput hb (by omega) false none)⟩
  | false =>
  cases lI with
  | cons x t =>
    rw [if_pos (.inr (by simp))]
    have b1 := (Bx.new w false none).alloc (.cells #[.string (bs l), .bool false] 89)
    have hR : Rd ((w.alloc (.cells #[.bool false, .pointer none] 31)).alloc (.cells #[.string (bs l), .bool false] 89)) (w.heap.size + 1) (bs l) false := new_at (asz _ _) _
    have hb : Below w.heap.size w ((w.alloc (.cells #[.bool false, .pointer none] 31)).alloc (.cells #[.string (bs l), .bool false] 89)) := bel1 _ _ _
    go_enter Try.func27, Try.ntmps27
    go_upto_region 2 with (fail)
    generalize (w.alloc (.cells #[.bool false, .pointer none] 31)).alloc (.cells #[.string (bs l), .bool false] 89) = w3 at *
    obtain ⟨B, hBB⟩ : ∃ B, w.heap.size = B := ⟨_, rfl⟩
    obtain ⟨R, hRR⟩ : ∃ R, B + 1 = R := ⟨_, rfl⟩
    rw [hBB] at b1 hR hb ⊢
    rw [hRR] at hR ⊢
    have hBR : B ≤ R := by omega
    go_upto_region 3 with (go_at_call 58; refine Calls.mono (I.out R _ hR) ?_; rintro e wn ⟨v, rfl, hv, hR1, hk⟩; obtain ⟨oI, qI, rfl, hoI⟩ := hv.shape'; have HI := Lib.hid hv; clear hv; have b1 := b1.but hR hk; have hb := hb.trans (hk.below hBR (by have := hR.lt; omega)); have hR := hR1; clear hR1 hk)
    have b2 := Bx.new wn oI qI
    have hEB : wn.heap.size ≠ B := b1.ne
    have hER : wn.heap.size ≠ R := hR.ne
    have b1 := b1.alloc (.cells #[.bool oI, .pointer qI] 31)
    have hR := hR.alloc (.cells #[.bool oI, .pointer qI] 31)
    have HI := Lib.hid (HI.out.alloc (.cells #[.bool oI, .pointer qI] 31))
    have hb := hb.alloc (by have := b1.lt; have := hb.size; omega) (.cells #[.bool oI, .pointer qI] 31)
    generalize wn.alloc (.cells #[.bool oI, .pointer qI] 31) = wz at *
    obtain ⟨E, hE⟩ : ∃ E, wn.heap.size = E := ⟨_, rfl⟩
    rw [hE] at b2 hEB hER ⊢
    have he : ¬ (bs (x :: t)).toList = [] := by rw [bs_toList]; simp
    have he2 : (bs (x :: t)).toList.isEmpty = false := by rw [bs_toList]; rfl
    have rc0 := hR.c0
    have rc1 := hR.c1
    have c10 := b1.c0
    have c11 := b1.c1
    have f10 := b1.f0
    have f11 := b1.f1
    have n1 := b1.ne
    have l1 := b1.lt
    have c20 := b2.c0
    have c21 := b2.c1
    have f20 := b2.f0
    have f21 := b2.f1
    have n2 := b2.ne
    have l2 := b2.lt
    go_wp2_with (first
      | (go_at_call 21; refine Calls.mono (zero_any _) ?_; rintro e wn ⟨v, rfl, rfl, hk⟩; have b1 := b1.below hk; have b2 := b2.below hk; have hb := hb.trans (hk.mono (by have := hb.size; omega)); clear c10 c11 f10 f11 n1 l1 c20 c21 f20 f21 n2 l2; have c10 := b1.c0; have c11 := b1.c1; have f10 := b1.f0; have f11 := b1.f1; have n1 := b1.ne; have l1 := b1.lt; have c20 := b2.c0; have c21 := b2.c1; have f20 := b2.f0; have f21 := b2.f1; have n2 := b2.ne; have l2 := b2.lt; clear hk))
    exact bodyPost_ret (v := .tuple #[.agg #[.bool false, .pointer none], .int .i64 6]) (by simp [results, go_sem, *]) rfl ⟨_, rfl, rfl, by first | exact bput hb (by omega) false none | (rw [← hBB] at hb; exact bput hb (by omega) false none)⟩
  | nil =>
  rw [if_neg (by simp)]
  by_cases hq : 16 < tI.depth
  · rw [if_pos hq]
    have b1 := (Bx.new w false none).alloc (.cells #[.string (bs l), .bool false] 89)
    have hR : Rd ((w.alloc (.cells #[.bool false, .pointer none] 31)).alloc (.cells #[.string (bs l), .bool false] 89)) (w.heap.size + 1) (bs l) false := new_at (asz _ _) _
    have hb : Below w.heap.size w ((w.alloc (.cells #[.bool false, .pointer none] 31)).alloc (.cells #[.string (bs l), .bool false] 89)) := bel1 _ _ _
    go_enter Try.func27, Try.ntmps27
    go_upto_region 2 with (fail)
    generalize (w.alloc (.cells #[.bool false, .pointer none] 31)).alloc (.cells #[.string (bs l), .bool false] 89) = w3 at *
    obtain ⟨B, hBB⟩ : ∃ B, w.heap.size = B := ⟨_, rfl⟩
    obtain ⟨R, hRR⟩ : ∃ R, B + 1 = R := ⟨_, rfl⟩
    rw [hBB] at b1 hR hb ⊢
    rw [hRR] at hR ⊢
    have hBR : B ≤ R := by omega
    go_upto_region 3 with (go_at_call 58; refine Calls.mono (I.out R _ hR) ?_; rintro e wn ⟨v, rfl, hv, hR1, hk⟩; obtain ⟨oI, qI, rfl, hoI⟩ := hv.shape'; have HI := Lib.hid hv; clear hv; have b1 := b1.but hR hk; have hb := hb.trans (hk.below hBR (by have := hR.lt; omega)); have hR := hR1; clear hR1 hk)
    have b2 := Bx.new wn oI qI
    have hEB : wn.heap.size ≠ B := b1.ne
    have hER : wn.heap.size ≠ R := hR.ne
    have b1 := b1.alloc (.cells #[.bool oI, .pointer qI] 31)
    have hR := hR.alloc (.cells #[.bool oI, .pointer qI] 31)
    have HI := Lib.hid (HI.out.alloc (.cells #[.bool oI, .pointer qI] 31))
    have hb := hb.alloc (by have := b1.lt; have := hb.size; omega) (.cells #[.bool oI, .pointer qI] 31)
    generalize wn.alloc (.cells #[.bool oI, .pointer qI] 31) = wz at *
    obtain ⟨E, hE⟩ : ∃ E, wn.heap.size = E := ⟨_, rfl⟩
    rw [hE] at b2 hEB hER ⊢
    have hR : Rd wz R ⟨#[]⟩ false := hR
    have rc0 := hR.c0
    have rc1 := hR.c1
    have c10 := b1.c0
    have c11 := b1.c1
    have f10 := b1.f0
    have f11 := b1.f1
    have n1 := b1.ne
    have l1 := b1.lt
    have c20 := b2.c0
    have c21 := b2.c1
    have f20 := b2.f0
    have f21 := b2.f1
    have n2 := b2.ne
    have l2 := b2.lt
    have hq : decide ((16 : Int) < (tI.depth : Int)) = true := by simp; omega
    go_wp2_with (first
      | (go_at_call 20; refine Calls.mono (depth_any _ HI.out hdep) ?_; rintro e wn ⟨rfl, hk⟩; have HI := Lib.hid (HI.out.below hk); have b1 := b1.below hk; have b2 := b2.below hk; have hb := hb.trans (hk.mono (by have := hb.size; omega)); clear c10 c11 f10 f11 n1 l1 c20 c21 f20 f21 n2 l2; have c10 := b1.c0; have c11 := b1.c1; have f10 := b1.f0; have f11 := b1.f1; have n1 := b1.ne; have l1 := b1.lt; have c20 := b2.c0; have c21 := b2.c1; have f20 := b2.f0; have f21 := b2.f1; have n2 := b2.ne; have l2 := b2.lt; clear hk)
      | (go_at_call 21; refine Calls.mono (zero_any _) ?_; rintro e wn ⟨v, rfl, rfl, hk⟩; have b1 := b1.below hk; have b2 := b2.below hk; have hb := hb.trans (hk.mono (by have := hb.size; omega)); clear c10 c11 f10 f11 n1 l1 c20 c21 f20 f21 n2 l2; have c10 := b1.c0; have c11 := b1.c1; have f10 := b1.f0; have f11 := b1.f1; have n1 := b1.ne; have l1 := b1.lt; have c20 := b2.c0; have c21 := b2.c1; have f20 := b2.f0; have f21 := b2.f1; have n2 := b2.ne; have l2 := b2.lt; clear hk))
    exact bodyPost_ret (v := .tuple #[.agg #[.bool false, .pointer none], .int .i64 3]) (by simp [results, go_sem, *]) rfl ⟨_, rfl, rfl, by first | exact bput hb (by omega) false none | (rw [← hBB] at hb; exact bput hb (by omega) false none)⟩
  · rw [if_neg hq]
    have b1 := (Bx.new w false none).alloc (.cells #[.string (bs l), .bool false] 89)
    have hR : Rd ((w.alloc (.cells #[.bool false, .pointer none] 31)).alloc (.cells #[.string (bs l), .bool false] 89)) (w.heap.size + 1) (bs l) false := new_at (asz _ _) _
    have hb : Below w.heap.size w ((w.alloc (.cells #[.bool false, .pointer none] 31)).alloc (.cells #[.string (bs l), .bool false] 89)) := bel1 _ _ _
    go_enter Try.func27, Try.ntmps27
    go_upto_region 2 with (fail)
    generalize (w.alloc (.cells #[.bool false, .pointer none] 31)).alloc (.cells #[.string (bs l), .bool false] 89) = w3 at *
    obtain ⟨B, hBB⟩ : ∃ B, w.heap.size = B := ⟨_, rfl⟩
    obtain ⟨R, hRR⟩ : ∃ R, B + 1 = R := ⟨_, rfl⟩
    rw [hBB] at b1 hR hb ⊢
    rw [hRR] at hR ⊢
    have hBR : B ≤ R := by omega
    go_upto_region 3 with (go_at_call 58; refine Calls.mono (I.out R _ hR) ?_; rintro e wn ⟨v, rfl, hv, hR1, hk⟩; obtain ⟨oI, qI, rfl, hoI⟩ := hv.shape'; have HI := Lib.hid hv; clear hv; have b1 := b1.but hR hk; have hb := hb.trans (hk.below hBR (by have := hR.lt; omega)); have hR := hR1; clear hR1 hk)
    have b2 := Bx.new wn oI qI
    have hEB : wn.heap.size ≠ B := b1.ne
    have hER : wn.heap.size ≠ R := hR.ne
    have b1 := b1.alloc (.cells #[.bool oI, .pointer qI] 31)
    have hR := hR.alloc (.cells #[.bool oI, .pointer qI] 31)
    have HI := Lib.hid (HI.out.alloc (.cells #[.bool oI, .pointer qI] 31))
    have hb := hb.alloc (by have := b1.lt; have := hb.size; omega) (.cells #[.bool oI, .pointer qI] 31)
    generalize wn.alloc (.cells #[.bool oI, .pointer qI] 31) = wz at *
    obtain ⟨E, hE⟩ : ∃ E, wn.heap.size = E := ⟨_, rfl⟩
    rw [hE] at b2 hEB hER ⊢
    have hR : Rd wz R ⟨#[]⟩ false := hR
    have rc0 := hR.c0
    have rc1 := hR.c1
    have c10 := b1.c0
    have c11 := b1.c1
    have f10 := b1.f0
    have f11 := b1.f1
    have n1 := b1.ne
    have l1 := b1.lt
    have c20 := b2.c0
    have c21 := b2.c1
    have f20 := b2.f0
    have f21 := b2.f1
    have n2 := b2.ne
    have l2 := b2.lt
    have hq : decide ((16 : Int) < (tI.depth : Int)) = false := by simp; omega
    go_wp2_with (first
      | (go_at_call 20; refine Calls.mono (depth_any _ HI.out hdep) ?_; rintro e wn ⟨rfl, hk⟩; have HI := Lib.hid (HI.out.below hk); have b1 := b1.below hk; have b2 := b2.below hk; have hb := hb.trans (hk.mono (by have := hb.size; omega)); clear c10 c11 f10 f11 n1 l1 c20 c21 f20 f21 n2 l2; have c10 := b1.c0; have c11 := b1.c1; have f10 := b1.f0; have f11 := b1.f1; have n1 := b1.ne; have l1 := b1.lt; have c20 := b2.c0; have c21 := b2.c1; have f20 := b2.f0; have f21 := b2.f1; have n2 := b2.ne; have l2 := b2.lt; clear hk))
    exact bodyPost_ret (v := .tuple #[.agg #[.bool oI, .pointer qI], .int .i64 0]) (by simp [results, go_sem, *]) rfl ⟨_, rfl, HI.out.kp (Kp.put b1 oI qI), by first | exact bput hb (by omega) oI qI | (rw [← hBB] at hb; exact bput hb (by omega) oI qI)⟩
end Go.Proofs.Ytigkjmfkpmehlaa
