/- kinfolkref02.Node, of two that are not alike. (The walks printed by wip/ids/evnode.py.) -/
import Derived.Test.YtigkjmfkpmehlaaEvRef
namespace Go.Proofs.Ytigkjmfkpmehlaa
open Go.RowKit

set_option maxRecDepth 100000 in
set_option maxHeartbeats 3200000 in
theorem rnode_any {k : Nat} {a b t : Ev} {K : Int} {va vb : Value} (w : World) (hK : K = (k : Int)) (ha : REV w a va) (hb : REV w b vb) (na : a.nf = true) (nb : b.nf = true) (hk : k + a.top + b.top < 1000000000) (hal : Ev.alike a b = false) (ht : Ev.node k a b = t) :
    Calls Try.prog 75 #[.int .u64 K, va, vb] w fun x w' => ∃ v, x = .returned v ∧ REV w' t v ∧ Below w.heap.size w w' := by
  subst hK
  have hal' := hal
  have ba := a.base_top
  have bb := b.base_top
  obtain ⟨b1, pl, pr, rfl, hn, hga⟩ := ha.view
  obtain ⟨b2, ql, qr, rfl, hm, hgb⟩ := hb.view
  have hcase := Ev.alike_no hal hga hgb
  have IL := Lib.hid (fun (wx : World) (k : Below w.heap.size w wx) => rmin_any wx (REV.below k ha) na (by omega))
  have IR := Lib.hid (fun (wx : World) (k : Below w.heap.size w wx) => rmin_any wx (REV.below k hb) nb (by omega))
  have HT : Hid (∀ (wx : World) (r1 r2 r3 : Nat) (m : Nat), m = Nat.min a.base b.base → Below w.heap.size w wx → EN wx r1 (a.base - m) pl pr → EN wx r2 (b.base - m) ql qr → EN wx r3 (k + m) (some ⟨r1, 0, none⟩) (some ⟨r2, 0, none⟩) → REV wx t (.pointer (some ⟨r3, 0, none⟩))) := Lib.hid (by
    intro wx r1 r2 r3 m hm0 hbx h1 h2 h3
    subst hm0
    rw [← ht]
    unfold Ev.node
    rw [if_neg (by rw [hal']; exact Bool.false_ne_true), Ev.nf_low na, Ev.nf_low nb]
    exact ⟨r3, r1, r2, rfl, h3, REV.of_sub (hga.below hbx) h1, REV.of_sub (hgb.below hbx) h2⟩)
  obtain ⟨A, hA⟩ : ∃ A, a.base = A := ⟨_, rfl⟩
  obtain ⟨B, hB⟩ : ∃ B, b.base = B := ⟨_, rfl⟩
  rw [hA] at hcase IL HT hn ba
  rw [hB] at hcase IR HT hm bb
  have hA' : k + A < 1000000000 ∧ A < 1000000000 := by omega
  have hB' : k + B < 1000000000 ∧ B < 1000000000 := by omega
  clear ha hb na nb hal ht hal' hga hgb hA hB ba bb hk
  have hmin : (Hid (B = Nat.min A B) ∧ (B : Int) < (A : Int)) ∨ (Hid (A = Nat.min A B) ∧ ¬ (B : Int) < (A : Int)) := by
    have e : Nat.min A B = min A B := rfl
    by_cases h : B < A
    · exact .inl ⟨Lib.hid (by omega), by omega⟩
    · exact .inr ⟨Lib.hid (by omega), by omega⟩
  have d0 := hn.c0
  have d1 := hn.c1
  have e0 := hm.c0
  have e1 := hm.c1
  have hbw := Below.refl w.heap.size w
  rcases hmin with ⟨HMN, hlt⟩ | ⟨HMN, hlt⟩
  · have s1 : IntKind.u64.wrap ((k : Int) + (B : Int)) = ((k + B : Nat) : Int) := by rw [u64_in (by omega) (by omega)]; omega
    have s2 : IntKind.u64.wrap ((A : Int) - (B : Int)) = ((A - B : Nat) : Int) := by rw [u64_in (by omega) (by omega)]; omega
    obtain ⟨KM, hKM⟩ : ∃ n, k + B = n := ⟨_, rfl⟩
    obtain ⟨D, hD⟩ : ∃ n, A - B = n := ⟨_, rfl⟩
    rw [hKM] at s1
    rw [hD] at s2
    have HT := Lib.hid (fun wx r1 r2 r3 hbx h1 h2 h3 => HT.out wx r1 r2 r3 B HMN.out hbx (by rw [hD]; exact h1) (by rw [Nat.sub_self]; exact h2) (by rw [hKM]; exact h3))
    have S1 := Lib.hid s1
    have S2 := Lib.hid s2
    clear s1 s2 hKM hD
    rcases hcase with ⟨p, rfl⟩ | ⟨rfl, q, rfl⟩ | ⟨rfl, rfl, hne⟩
    · go_enter Try.func75, Try.ntmps75
      go_upto_region 1 with (fail)
      go_quiet (fail)
      have hb := bdrewN hbw nq
      go_upto_region 6 with (first
        | (go_at_call_of 88 (Value.pointer (some ⟨b1, 0, none⟩)); (with_reducible refine Calls.mono (IL.out _ hb) ?_); rintro e wn ⟨rfl, hkk⟩; have hb := hb.trans (hkk.mono hb.size); clear hkk)
        | (go_at_call_of 88 (Value.pointer (some ⟨b2, 0, none⟩)); (with_reducible refine Calls.mono (IR.out _ hb) ?_); rintro e wn ⟨rfl, hkk⟩; have hb := hb.trans (hkk.mono hb.size); clear hkk))
      have hn := (hn.below hb).drew
      have hm := (hm.below hb).drew
      have hb0 := hb
      have hb := bdrew hb
      have s1 := S1.out
      have s2 := S2.out
      have hz : IntKind.u64.wrap 0 = 0 := by decide
      rename World => wn
      go_region_held3 (fun w' => (w'.cell? ⟨b1, 0, none⟩ = some (.int .u64 (A : Int)) ∧ w'.cell? ⟨b1, 1, none⟩ = some (.pointer (some ⟨p, 0, none⟩)) ∧ w'.cell? ⟨b1, 2, none⟩ = some (.pointer pr)) ∧ w'.cell? ⟨b2, 0, none⟩ = some (.int .u64 (B : Int)) ∧ w'.cell? ⟨b2, 1, none⟩ = some (.pointer ql) ∧ w'.cell? ⟨b2, 2, none⟩ = some (.pointer qr))
        ((refine (fun h k => ⟨⟨EN.c0 h, EN.c1 h, EN.c2 h⟩, EN.c0 k, EN.c1 k, EN.c2 k⟩ : EN _ b1 A (some ⟨p, 0, none⟩) pr → EN _ b2 B ql qr → _) ?_ ?_ <;> repeat (first | exact hn | exact hm | refine EN.alloc ?_ _)))
        (fail)
      · clear s1 s2 hz
        go_wp2_with fail
        go_ret
        have k1 := EN.new wn D (some ⟨p, 0, none⟩) pr
        have k2 := EN.new_at (w := wn.alloc (.cells #[.int .u64 (D : Int), .pointer (some ⟨p, 0, none⟩), .pointer pr] 109)) (k := wn.heap.size + 1) (0 : Nat) ql qr (by simp)
        have k3 := EN.new_at (w := (wn.alloc (.cells #[.int .u64 (D : Int), .pointer (some ⟨p, 0, none⟩), .pointer pr] 109)).alloc (.cells #[.int .u64 ((0 : Nat) : Int), .pointer ql, .pointer qr] 109)) (k := wn.heap.size + 1 + 1) KM (some ⟨wn.heap.size, 0, none⟩) (some ⟨wn.heap.size + 1, 0, none⟩) (by simp)
        have hb1 := ((hb0.alloc hb0.size (.cells #[.int .u64 (D : Int), .pointer (some ⟨p, 0, none⟩), .pointer pr] 109)).alloc (by simp only [asz]; have := hb0.size; omega) (.cells #[.int .u64 ((0 : Nat) : Int), .pointer ql, .pointer qr] 109)).alloc (by simp only [asz]; have := hb0.size; omega) (.cells #[.int .u64 (KM : Int), .pointer (some ⟨wn.heap.size, 0, none⟩), .pointer (some ⟨wn.heap.size + 1, 0, none⟩)] 109)
        exact ⟨_, rfl, HT.out _ _ _ _ (bdrew hb1) ((k1.alloc _).alloc _).drew (k2.alloc _).drew k3.drew, bdrew hb1⟩
      · clear s1 s2 hz
        go_wp2_with fail
        go_ret
        have k2 := EN.new wn (0 : Nat) ql qr
        have k1 := EN.new_at (w := wn.alloc (.cells #[.int .u64 ((0 : Nat) : Int), .pointer ql, .pointer qr] 109)) (k := wn.heap.size + 1) D (some ⟨p, 0, none⟩) pr (by simp)
        have k3 := EN.new_at (w := (wn.alloc (.cells #[.int .u64 ((0 : Nat) : Int), .pointer ql, .pointer qr] 109)).alloc (.cells #[.int .u64 (D : Int), .pointer (some ⟨p, 0, none⟩), .pointer pr] 109)) (k := wn.heap.size + 1 + 1) KM (some ⟨wn.heap.size + 1, 0, none⟩) (some ⟨wn.heap.size, 0, none⟩) (by simp)
        have hb1 := ((hb0.alloc hb0.size (.cells #[.int .u64 ((0 : Nat) : Int), .pointer ql, .pointer qr] 109)).alloc (by simp only [asz]; have := hb0.size; omega) (.cells #[.int .u64 (D : Int), .pointer (some ⟨p, 0, none⟩), .pointer pr] 109)).alloc (by simp only [asz]; have := hb0.size; omega) (.cells #[.int .u64 (KM : Int), .pointer (some ⟨wn.heap.size + 1, 0, none⟩), .pointer (some ⟨wn.heap.size, 0, none⟩)] 109)
        exact ⟨_, rfl, HT.out _ _ _ _ (bdrew hb1) (k1.alloc _).drew ((k2.alloc _).alloc _).drew k3.drew, bdrew hb1⟩
    · go_enter Try.func75, Try.ntmps75
      go_upto_region 1 with (fail)
      go_quiet (fail)
      have hb := bdrewN hbw nq
      go_upto_region 6 with (first
        | (go_at_call_of 88 (Value.pointer (some ⟨b1, 0, none⟩)); (with_reducible refine Calls.mono (IL.out _ hb) ?_); rintro e wn ⟨rfl, hkk⟩; have hb := hb.trans (hkk.mono hb.size); clear hkk)
        | (go_at_call_of 88 (Value.pointer (some ⟨b2, 0, none⟩)); (with_reducible refine Calls.mono (IR.out _ hb) ?_); rintro e wn ⟨rfl, hkk⟩; have hb := hb.trans (hkk.mono hb.size); clear hkk))
      have hn := (hn.below hb).drew
      have hm := (hm.below hb).drew
      have hb0 := hb
      have hb := bdrew hb
      have s1 := S1.out
      have s2 := S2.out
      have hz : IntKind.u64.wrap 0 = 0 := by decide
      rename World => wn
      go_region_held3 (fun w' => (w'.cell? ⟨b1, 0, none⟩ = some (.int .u64 (A : Int)) ∧ w'.cell? ⟨b1, 1, none⟩ = some (.pointer none) ∧ w'.cell? ⟨b1, 2, none⟩ = some (.pointer pr)) ∧ w'.cell? ⟨b2, 0, none⟩ = some (.int .u64 (B : Int)) ∧ w'.cell? ⟨b2, 1, none⟩ = some (.pointer (some ⟨q, 0, none⟩)) ∧ w'.cell? ⟨b2, 2, none⟩ = some (.pointer qr))
        ((refine (fun h k => ⟨⟨EN.c0 h, EN.c1 h, EN.c2 h⟩, EN.c0 k, EN.c1 k, EN.c2 k⟩ : EN _ b1 A none pr → EN _ b2 B (some ⟨q, 0, none⟩) qr → _) ?_ ?_ <;> repeat (first | exact hn | exact hm | refine EN.alloc ?_ _)))
        (fail)
      · clear s1 s2 hz
        go_wp2_with fail
        go_ret
        have k1 := EN.new wn D none pr
        have k2 := EN.new_at (w := wn.alloc (.cells #[.int .u64 (D : Int), .pointer none, .pointer pr] 109)) (k := wn.heap.size + 1) (0 : Nat) (some ⟨q, 0, none⟩) qr (by simp)
        have k3 := EN.new_at (w := (wn.alloc (.cells #[.int .u64 (D : Int), .pointer none, .pointer pr] 109)).alloc (.cells #[.int .u64 ((0 : Nat) : Int), .pointer (some ⟨q, 0, none⟩), .pointer qr] 109)) (k := wn.heap.size + 1 + 1) KM (some ⟨wn.heap.size, 0, none⟩) (some ⟨wn.heap.size + 1, 0, none⟩) (by simp)
        have hb1 := ((hb0.alloc hb0.size (.cells #[.int .u64 (D : Int), .pointer none, .pointer pr] 109)).alloc (by simp only [asz]; have := hb0.size; omega) (.cells #[.int .u64 ((0 : Nat) : Int), .pointer (some ⟨q, 0, none⟩), .pointer qr] 109)).alloc (by simp only [asz]; have := hb0.size; omega) (.cells #[.int .u64 (KM : Int), .pointer (some ⟨wn.heap.size, 0, none⟩), .pointer (some ⟨wn.heap.size + 1, 0, none⟩)] 109)
        exact ⟨_, rfl, HT.out _ _ _ _ (bdrew hb1) ((k1.alloc _).alloc _).drew (k2.alloc _).drew k3.drew, bdrew hb1⟩
      · clear s1 s2 hz
        go_wp2_with fail
        go_ret
        have k2 := EN.new wn (0 : Nat) (some ⟨q, 0, none⟩) qr
        have k1 := EN.new_at (w := wn.alloc (.cells #[.int .u64 ((0 : Nat) : Int), .pointer (some ⟨q, 0, none⟩), .pointer qr] 109)) (k := wn.heap.size + 1) D none pr (by simp)
        have k3 := EN.new_at (w := (wn.alloc (.cells #[.int .u64 ((0 : Nat) : Int), .pointer (some ⟨q, 0, none⟩), .pointer qr] 109)).alloc (.cells #[.int .u64 (D : Int), .pointer none, .pointer pr] 109)) (k := wn.heap.size + 1 + 1) KM (some ⟨wn.heap.size + 1, 0, none⟩) (some ⟨wn.heap.size, 0, none⟩) (by simp)
        have hb1 := ((hb0.alloc hb0.size (.cells #[.int .u64 ((0 : Nat) : Int), .pointer (some ⟨q, 0, none⟩), .pointer qr] 109)).alloc (by simp only [asz]; have := hb0.size; omega) (.cells #[.int .u64 (D : Int), .pointer none, .pointer pr] 109)).alloc (by simp only [asz]; have := hb0.size; omega) (.cells #[.int .u64 (KM : Int), .pointer (some ⟨wn.heap.size + 1, 0, none⟩), .pointer (some ⟨wn.heap.size, 0, none⟩)] 109)
        exact ⟨_, rfl, HT.out _ _ _ _ (bdrew hb1) (k1.alloc _).drew ((k2.alloc _).alloc _).drew k3.drew, bdrew hb1⟩
    · go_enter Try.func75, Try.ntmps75
      go_upto_region 1 with (fail)
      go_quiet (fail)
      have hb := bdrewN hbw nq
      go_upto_region 6 with (first
        | (go_at_call_of 88 (Value.pointer (some ⟨b1, 0, none⟩)); (with_reducible refine Calls.mono (IL.out _ hb) ?_); rintro e wn ⟨rfl, hkk⟩; have hb := hb.trans (hkk.mono hb.size); clear hkk)
        | (go_at_call_of 88 (Value.pointer (some ⟨b2, 0, none⟩)); (with_reducible refine Calls.mono (IR.out _ hb) ?_); rintro e wn ⟨rfl, hkk⟩; have hb := hb.trans (hkk.mono hb.size); clear hkk))
      have hn := (hn.below hb).drew
      have hm := (hm.below hb).drew
      have hb0 := hb
      have hb := bdrew hb
      have s1 := S1.out
      have s2 := S2.out
      have hz : IntKind.u64.wrap 0 = 0 := by decide
      rename World => wn
      go_region_held3 (fun w' => (w'.cell? ⟨b1, 0, none⟩ = some (.int .u64 (A : Int)) ∧ w'.cell? ⟨b1, 1, none⟩ = some (.pointer none) ∧ w'.cell? ⟨b1, 2, none⟩ = some (.pointer pr)) ∧ w'.cell? ⟨b2, 0, none⟩ = some (.int .u64 (B : Int)) ∧ w'.cell? ⟨b2, 1, none⟩ = some (.pointer none) ∧ w'.cell? ⟨b2, 2, none⟩ = some (.pointer qr))
        ((refine (fun h k => ⟨⟨EN.c0 h, EN.c1 h, EN.c2 h⟩, EN.c0 k, EN.c1 k, EN.c2 k⟩ : EN _ b1 A none pr → EN _ b2 B none qr → _) ?_ ?_ <;> repeat (first | exact hn | exact hm | refine EN.alloc ?_ _)))
        (fail)
      · clear s1 s2 hz
        go_wp2_with fail
        go_ret
        have k1 := EN.new wn D none pr
        have k2 := EN.new_at (w := wn.alloc (.cells #[.int .u64 (D : Int), .pointer none, .pointer pr] 109)) (k := wn.heap.size + 1) (0 : Nat) none qr (by simp)
        have k3 := EN.new_at (w := (wn.alloc (.cells #[.int .u64 (D : Int), .pointer none, .pointer pr] 109)).alloc (.cells #[.int .u64 ((0 : Nat) : Int), .pointer none, .pointer qr] 109)) (k := wn.heap.size + 1 + 1) KM (some ⟨wn.heap.size, 0, none⟩) (some ⟨wn.heap.size + 1, 0, none⟩) (by simp)
        have hb1 := ((hb0.alloc hb0.size (.cells #[.int .u64 (D : Int), .pointer none, .pointer pr] 109)).alloc (by simp only [asz]; have := hb0.size; omega) (.cells #[.int .u64 ((0 : Nat) : Int), .pointer none, .pointer qr] 109)).alloc (by simp only [asz]; have := hb0.size; omega) (.cells #[.int .u64 (KM : Int), .pointer (some ⟨wn.heap.size, 0, none⟩), .pointer (some ⟨wn.heap.size + 1, 0, none⟩)] 109)
        exact ⟨_, rfl, HT.out _ _ _ _ (bdrew hb1) ((k1.alloc _).alloc _).drew (k2.alloc _).drew k3.drew, bdrew hb1⟩
      · clear s1 s2 hz
        go_wp2_with fail
        go_ret
        have k2 := EN.new wn (0 : Nat) none qr
        have k1 := EN.new_at (w := wn.alloc (.cells #[.int .u64 ((0 : Nat) : Int), .pointer none, .pointer qr] 109)) (k := wn.heap.size + 1) D none pr (by simp)
        have k3 := EN.new_at (w := (wn.alloc (.cells #[.int .u64 ((0 : Nat) : Int), .pointer none, .pointer qr] 109)).alloc (.cells #[.int .u64 (D : Int), .pointer none, .pointer pr] 109)) (k := wn.heap.size + 1 + 1) KM (some ⟨wn.heap.size + 1, 0, none⟩) (some ⟨wn.heap.size, 0, none⟩) (by simp)
        have hb1 := ((hb0.alloc hb0.size (.cells #[.int .u64 ((0 : Nat) : Int), .pointer none, .pointer qr] 109)).alloc (by simp only [asz]; have := hb0.size; omega) (.cells #[.int .u64 (D : Int), .pointer none, .pointer pr] 109)).alloc (by simp only [asz]; have := hb0.size; omega) (.cells #[.int .u64 (KM : Int), .pointer (some ⟨wn.heap.size + 1, 0, none⟩), .pointer (some ⟨wn.heap.size, 0, none⟩)] 109)
        exact ⟨_, rfl, HT.out _ _ _ _ (bdrew hb1) (k1.alloc _).drew ((k2.alloc _).alloc _).drew k3.drew, bdrew hb1⟩
  · have s1 : IntKind.u64.wrap ((k : Int) + (A : Int)) = ((k + A : Nat) : Int) := by rw [u64_in (by omega) (by omega)]; omega
    have s2 : IntKind.u64.wrap ((B : Int) - (A : Int)) = ((B - A : Nat) : Int) := by rw [u64_in (by omega) (by omega)]; omega
    obtain ⟨KM, hKM⟩ : ∃ n, k + A = n := ⟨_, rfl⟩
    obtain ⟨D, hD⟩ : ∃ n, B - A = n := ⟨_, rfl⟩
    rw [hKM] at s1
    rw [hD] at s2
    have HT := Lib.hid (fun wx r1 r2 r3 hbx h1 h2 h3 => HT.out wx r1 r2 r3 A HMN.out hbx (by rw [Nat.sub_self]; exact h1) (by rw [hD]; exact h2) (by rw [hKM]; exact h3))
    have S1 := Lib.hid s1
    have S2 := Lib.hid s2
    clear s1 s2 hKM hD
    rcases hcase with ⟨p, rfl⟩ | ⟨rfl, q, rfl⟩ | ⟨rfl, rfl, hne⟩
    · go_enter Try.func75, Try.ntmps75
      go_upto_region 1 with (fail)
      go_quiet (fail)
      have hb := bdrewN hbw nq
      go_upto_region 6 with (first
        | (go_at_call_of 88 (Value.pointer (some ⟨b1, 0, none⟩)); (with_reducible refine Calls.mono (IL.out _ hb) ?_); rintro e wn ⟨rfl, hkk⟩; have hb := hb.trans (hkk.mono hb.size); clear hkk)
        | (go_at_call_of 88 (Value.pointer (some ⟨b2, 0, none⟩)); (with_reducible refine Calls.mono (IR.out _ hb) ?_); rintro e wn ⟨rfl, hkk⟩; have hb := hb.trans (hkk.mono hb.size); clear hkk))
      have hn := (hn.below hb).drew
      have hm := (hm.below hb).drew
      have hb0 := hb
      have hb := bdrew hb
      have s1 := S1.out
      have s2 := S2.out
      have hz : IntKind.u64.wrap 0 = 0 := by decide
      rename World => wn
      go_region_held3 (fun w' => (w'.cell? ⟨b1, 0, none⟩ = some (.int .u64 (A : Int)) ∧ w'.cell? ⟨b1, 1, none⟩ = some (.pointer (some ⟨p, 0, none⟩)) ∧ w'.cell? ⟨b1, 2, none⟩ = some (.pointer pr)) ∧ w'.cell? ⟨b2, 0, none⟩ = some (.int .u64 (B : Int)) ∧ w'.cell? ⟨b2, 1, none⟩ = some (.pointer ql) ∧ w'.cell? ⟨b2, 2, none⟩ = some (.pointer qr))
        ((refine (fun h k => ⟨⟨EN.c0 h, EN.c1 h, EN.c2 h⟩, EN.c0 k, EN.c1 k, EN.c2 k⟩ : EN _ b1 A (some ⟨p, 0, none⟩) pr → EN _ b2 B ql qr → _) ?_ ?_ <;> repeat (first | exact hn | exact hm | refine EN.alloc ?_ _)))
        (fail)
      · clear s1 s2 hz
        go_wp2_with fail
        go_ret
        have k1 := EN.new wn (0 : Nat) (some ⟨p, 0, none⟩) pr
        have k2 := EN.new_at (w := wn.alloc (.cells #[.int .u64 ((0 : Nat) : Int), .pointer (some ⟨p, 0, none⟩), .pointer pr] 109)) (k := wn.heap.size + 1) D ql qr (by simp)
        have k3 := EN.new_at (w := (wn.alloc (.cells #[.int .u64 ((0 : Nat) : Int), .pointer (some ⟨p, 0, none⟩), .pointer pr] 109)).alloc (.cells #[.int .u64 (D : Int), .pointer ql, .pointer qr] 109)) (k := wn.heap.size + 1 + 1) KM (some ⟨wn.heap.size, 0, none⟩) (some ⟨wn.heap.size + 1, 0, none⟩) (by simp)
        have hb1 := ((hb0.alloc hb0.size (.cells #[.int .u64 ((0 : Nat) : Int), .pointer (some ⟨p, 0, none⟩), .pointer pr] 109)).alloc (by simp only [asz]; have := hb0.size; omega) (.cells #[.int .u64 (D : Int), .pointer ql, .pointer qr] 109)).alloc (by simp only [asz]; have := hb0.size; omega) (.cells #[.int .u64 (KM : Int), .pointer (some ⟨wn.heap.size, 0, none⟩), .pointer (some ⟨wn.heap.size + 1, 0, none⟩)] 109)
        exact ⟨_, rfl, HT.out _ _ _ _ (bdrew hb1) ((k1.alloc _).alloc _).drew (k2.alloc _).drew k3.drew, bdrew hb1⟩
      · clear s1 s2 hz
        go_wp2_with fail
        go_ret
        have k2 := EN.new wn D ql qr
        have k1 := EN.new_at (w := wn.alloc (.cells #[.int .u64 (D : Int), .pointer ql, .pointer qr] 109)) (k := wn.heap.size + 1) (0 : Nat) (some ⟨p, 0, none⟩) pr (by simp)
        have k3 := EN.new_at (w := (wn.alloc (.cells #[.int .u64 (D : Int), .pointer ql, .pointer qr] 109)).alloc (.cells #[.int .u64 ((0 : Nat) : Int), .pointer (some ⟨p, 0, none⟩), .pointer pr] 109)) (k := wn.heap.size + 1 + 1) KM (some ⟨wn.heap.size + 1, 0, none⟩) (some ⟨wn.heap.size, 0, none⟩) (by simp)
        have hb1 := ((hb0.alloc hb0.size (.cells #[.int .u64 (D : Int), .pointer ql, .pointer qr] 109)).alloc (by simp only [asz]; have := hb0.size; omega) (.cells #[.int .u64 ((0 : Nat) : Int), .pointer (some ⟨p, 0, none⟩), .pointer pr] 109)).alloc (by simp only [asz]; have := hb0.size; omega) (.cells #[.int .u64 (KM : Int), .pointer (some ⟨wn.heap.size + 1, 0, none⟩), .pointer (some ⟨wn.heap.size, 0, none⟩)] 109)
        exact ⟨_, rfl, HT.out _ _ _ _ (bdrew hb1) (k1.alloc _).drew ((k2.alloc _).alloc _).drew k3.drew, bdrew hb1⟩
    · go_enter Try.func75, Try.ntmps75
      go_upto_region 1 with (fail)
      go_quiet (fail)
      have hb := bdrewN hbw nq
      go_upto_region 6 with (first
        | (go_at_call_of 88 (Value.pointer (some ⟨b1, 0, none⟩)); (with_reducible refine Calls.mono (IL.out _ hb) ?_); rintro e wn ⟨rfl, hkk⟩; have hb := hb.trans (hkk.mono hb.size); clear hkk)
        | (go_at_call_of 88 (Value.pointer (some ⟨b2, 0, none⟩)); (with_reducible refine Calls.mono (IR.out _ hb) ?_); rintro e wn ⟨rfl, hkk⟩; have hb := hb.trans (hkk.mono hb.size); clear hkk))
      have hn := (hn.below hb).drew
      have hm := (hm.below hb).drew
      have hb0 := hb
      have hb := bdrew hb
      have s1 := S1.out
      have s2 := S2.out
      have hz : IntKind.u64.wrap 0 = 0 := by decide
      rename World => wn
      go_region_held3 (fun w' => (w'.cell? ⟨b1, 0, none⟩ = some (.int .u64 (A : Int)) ∧ w'.cell? ⟨b1, 1, none⟩ = some (.pointer none) ∧ w'.cell? ⟨b1, 2, none⟩ = some (.pointer pr)) ∧ w'.cell? ⟨b2, 0, none⟩ = some (.int .u64 (B : Int)) ∧ w'.cell? ⟨b2, 1, none⟩ = some (.pointer (some ⟨q, 0, none⟩)) ∧ w'.cell? ⟨b2, 2, none⟩ = some (.pointer qr))
        ((refine (fun h k => ⟨⟨EN.c0 h, EN.c1 h, EN.c2 h⟩, EN.c0 k, EN.c1 k, EN.c2 k⟩ : EN _ b1 A none pr → EN _ b2 B (some ⟨q, 0, none⟩) qr → _) ?_ ?_ <;> repeat (first | exact hn | exact hm | refine EN.alloc ?_ _)))
        (fail)
      · clear s1 s2 hz
        go_wp2_with fail
        go_ret
        have k1 := EN.new wn (0 : Nat) none pr
        have k2 := EN.new_at (w := wn.alloc (.cells #[.int .u64 ((0 : Nat) : Int), .pointer none, .pointer pr] 109)) (k := wn.heap.size + 1) D (some ⟨q, 0, none⟩) qr (by simp)
        have k3 := EN.new_at (w := (wn.alloc (.cells #[.int .u64 ((0 : Nat) : Int), .pointer none, .pointer pr] 109)).alloc (.cells #[.int .u64 (D : Int), .pointer (some ⟨q, 0, none⟩), .pointer qr] 109)) (k := wn.heap.size + 1 + 1) KM (some ⟨wn.heap.size, 0, none⟩) (some ⟨wn.heap.size + 1, 0, none⟩) (by simp)
        have hb1 := ((hb0.alloc hb0.size (.cells #[.int .u64 ((0 : Nat) : Int), .pointer none, .pointer pr] 109)).alloc (by simp only [asz]; have := hb0.size; omega) (.cells #[.int .u64 (D : Int), .pointer (some ⟨q, 0, none⟩), .pointer qr] 109)).alloc (by simp only [asz]; have := hb0.size; omega) (.cells #[.int .u64 (KM : Int), .pointer (some ⟨wn.heap.size, 0, none⟩), .pointer (some ⟨wn.heap.size + 1, 0, none⟩)] 109)
        exact ⟨_, rfl, HT.out _ _ _ _ (bdrew hb1) ((k1.alloc _).alloc _).drew (k2.alloc _).drew k3.drew, bdrew hb1⟩
      · clear s1 s2 hz
        go_wp2_with fail
        go_ret
        have k2 := EN.new wn D (some ⟨q, 0, none⟩) qr
        have k1 := EN.new_at (w := wn.alloc (.cells #[.int .u64 (D : Int), .pointer (some ⟨q, 0, none⟩), .pointer qr] 109)) (k := wn.heap.size + 1) (0 : Nat) none pr (by simp)
        have k3 := EN.new_at (w := (wn.alloc (.cells #[.int .u64 (D : Int), .pointer (some ⟨q, 0, none⟩), .pointer qr] 109)).alloc (.cells #[.int .u64 ((0 : Nat) : Int), .pointer none, .pointer pr] 109)) (k := wn.heap.size + 1 + 1) KM (some ⟨wn.heap.size + 1, 0, none⟩) (some ⟨wn.heap.size, 0, none⟩) (by simp)
        have hb1 := ((hb0.alloc hb0.size (.cells #[.int .u64 (D : Int), .pointer (some ⟨q, 0, none⟩), .pointer qr] 109)).alloc (by simp only [asz]; have := hb0.size; omega) (.cells #[.int .u64 ((0 : Nat) : Int), .pointer none, .pointer pr] 109)).alloc (by simp only [asz]; have := hb0.size; omega) (.cells #[.int .u64 (KM : Int), .pointer (some ⟨wn.heap.size + 1, 0, none⟩), .pointer (some ⟨wn.heap.size, 0, none⟩)] 109)
        exact ⟨_, rfl, HT.out _ _ _ _ (bdrew hb1) (k1.alloc _).drew ((k2.alloc _).alloc _).drew k3.drew, bdrew hb1⟩
    · go_enter Try.func75, Try.ntmps75
      go_upto_region 1 with (fail)
      go_quiet (fail)
      have hb := bdrewN hbw nq
      go_upto_region 6 with (first
        | (go_at_call_of 88 (Value.pointer (some ⟨b1, 0, none⟩)); (with_reducible refine Calls.mono (IL.out _ hb) ?_); rintro e wn ⟨rfl, hkk⟩; have hb := hb.trans (hkk.mono hb.size); clear hkk)
        | (go_at_call_of 88 (Value.pointer (some ⟨b2, 0, none⟩)); (with_reducible refine Calls.mono (IR.out _ hb) ?_); rintro e wn ⟨rfl, hkk⟩; have hb := hb.trans (hkk.mono hb.size); clear hkk))
      have hn := (hn.below hb).drew
      have hm := (hm.below hb).drew
      have hb0 := hb
      have hb := bdrew hb
      have s1 := S1.out
      have s2 := S2.out
      have hz : IntKind.u64.wrap 0 = 0 := by decide
      rename World => wn
      go_region_held3 (fun w' => (w'.cell? ⟨b1, 0, none⟩ = some (.int .u64 (A : Int)) ∧ w'.cell? ⟨b1, 1, none⟩ = some (.pointer none) ∧ w'.cell? ⟨b1, 2, none⟩ = some (.pointer pr)) ∧ w'.cell? ⟨b2, 0, none⟩ = some (.int .u64 (B : Int)) ∧ w'.cell? ⟨b2, 1, none⟩ = some (.pointer none) ∧ w'.cell? ⟨b2, 2, none⟩ = some (.pointer qr))
        ((refine (fun h k => ⟨⟨EN.c0 h, EN.c1 h, EN.c2 h⟩, EN.c0 k, EN.c1 k, EN.c2 k⟩ : EN _ b1 A none pr → EN _ b2 B none qr → _) ?_ ?_ <;> repeat (first | exact hn | exact hm | refine EN.alloc ?_ _)))
        (fail)
      · clear s1 s2 hz
        go_wp2_with fail
        go_ret
        have k1 := EN.new wn (0 : Nat) none pr
        have k2 := EN.new_at (w := wn.alloc (.cells #[.int .u64 ((0 : Nat) : Int), .pointer none, .pointer pr] 109)) (k := wn.heap.size + 1) D none qr (by simp)
        have k3 := EN.new_at (w := (wn.alloc (.cells #[.int .u64 ((0 : Nat) : Int), .pointer none, .pointer pr] 109)).alloc (.cells #[.int .u64 (D : Int), .pointer none, .pointer qr] 109)) (k := wn.heap.size + 1 + 1) KM (some ⟨wn.heap.size, 0, none⟩) (some ⟨wn.heap.size + 1, 0, none⟩) (by simp)
        have hb1 := ((hb0.alloc hb0.size (.cells #[.int .u64 ((0 : Nat) : Int), .pointer none, .pointer pr] 109)).alloc (by simp only [asz]; have := hb0.size; omega) (.cells #[.int .u64 (D : Int), .pointer none, .pointer qr] 109)).alloc (by simp only [asz]; have := hb0.size; omega) (.cells #[.int .u64 (KM : Int), .pointer (some ⟨wn.heap.size, 0, none⟩), .pointer (some ⟨wn.heap.size + 1, 0, none⟩)] 109)
        exact ⟨_, rfl, HT.out _ _ _ _ (bdrew hb1) ((k1.alloc _).alloc _).drew (k2.alloc _).drew k3.drew, bdrew hb1⟩
      · clear s1 s2 hz
        go_wp2_with fail
        go_ret
        have k2 := EN.new wn D none qr
        have k1 := EN.new_at (w := wn.alloc (.cells #[.int .u64 (D : Int), .pointer none, .pointer qr] 109)) (k := wn.heap.size + 1) (0 : Nat) none pr (by simp)
        have k3 := EN.new_at (w := (wn.alloc (.cells #[.int .u64 (D : Int), .pointer none, .pointer qr] 109)).alloc (.cells #[.int .u64 ((0 : Nat) : Int), .pointer none, .pointer pr] 109)) (k := wn.heap.size + 1 + 1) KM (some ⟨wn.heap.size + 1, 0, none⟩) (some ⟨wn.heap.size, 0, none⟩) (by simp)
        have hb1 := ((hb0.alloc hb0.size (.cells #[.int .u64 (D : Int), .pointer none, .pointer qr] 109)).alloc (by simp only [asz]; have := hb0.size; omega) (.cells #[.int .u64 ((0 : Nat) : Int), .pointer none, .pointer pr] 109)).alloc (by simp only [asz]; have := hb0.size; omega) (.cells #[.int .u64 (KM : Int), .pointer (some ⟨wn.heap.size + 1, 0, none⟩), .pointer (some ⟨wn.heap.size, 0, none⟩)] 109)
        exact ⟨_, rfl, HT.out _ _ _ _ (bdrew hb1) (k1.alloc _).drew ((k2.alloc _).alloc _).drew k3.drew, bdrew hb1⟩
end Go.Proofs.Ytigkjmfkpmehlaa
