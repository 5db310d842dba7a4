/-
  The walks of the small functions on exponent lists, eighth part: the comparison by any order; alike.
-/
import Derived.Test.YtaidopbndlhpgaaMonoG
import Derived.Laws.EntriesVeiled
import Derived.Deep.DeepMust
namespace Go.Proofs.Ytaidopbndlhpgaa
open Go.RowKit

set_option maxHeartbeats 1000000 in
/-- mono.Cmp -/
theorem cmp_any (kind c : Int) (v u : Value) (xs ys : List Int) (w : World) (h : Ints w v xs) (k : Ints w u ys) (hle : xs.length = ys.length) (hx0 : ∀ x ∈ xs, 0 ≤ x ∧ x ≤ 1000) (hy0 : ∀ x ∈ ys, 0 ≤ x ∧ x ≤ 1000) (hn : xs.length ≤ 1000) (h0 : 0 ≤ c) (h1 : c ≤ xs.length) (hk0 : 0 ≤ kind) (hk3 : kind ≤ 3) :
    Calls Try.prog 16 #[.agg #[.int .i64 kind, .int .i64 c], v, u] w fun e w' => e = .returned (.int .i64 (Mo.cmpC kind c xs ys)) ∧ Below w.heap.size w w' := by
  have hn2 : ys.length ≤ 1000 := by omega
  have hlex := fun W (b : Below w.heap.size w W) => lexWay_any (.int .i64 c) v u xs ys W (h.below b) (k.below b)
  have hgrl := fun W (b : Below w.heap.size w W) => grlex_any (.int .i64 c) v u xs ys W (h.below b) (k.below b) hx0 hy0 hn hn2
  have hgrev := fun W (b : Below w.heap.size w W) => grevlex_any (.int .i64 c) v u xs ys W (h.below b) (k.below b) hle hx0 hy0 hn
  have hblk := fun W (b : Below w.heap.size w W) => block_any c v u xs ys W (h.below b) (k.below b) hle hx0 hy0 hn h0 h1
  have HL := Lib.hid hlex; clear hlex
  have HGL := Lib.hid hgrl; clear hgrl
  have HG := Lib.hid hgrev; clear hgrev
  have HB := Lib.hid hblk; clear hblk
  have hz : kind = 0 ∨ kind = 1 ∨ kind = 2 ∨ kind = 3 := by omega
  clear hle hx0 hy0 hn h k hn2 hk0 hk3
  have hb0 : ∀ A B : Obj, Below w.heap.size w ((w.alloc A).alloc B).drew := fun A B => (((Below.refl _ w).alloc (Nat.le_refl _) A).alloc (by simp) B).drew
  have HB0 := Lib.hid hb0; clear hb0
  rcases hz with rfl | rfl | rfl | rfl
  · have hfin : Mo.lexC xs ys = Mo.cmpC 0 c xs ys := by simp [Mo.cmpC]
    have HF := Lib.hid hfin; clear hfin
    go_enter Try.func16, Try.ntmps16
    go_wp2
    go_region_with (first | (go_at_call 34; refine (HL.out _ (HB0.out _ _)).mono ?_; rintro e w' ⟨rfl, rfl⟩))
    all_goals go_wp2
    all_goals go_ret
    all_goals exact ⟨by rw [← HF.out]; rfl, HB0.out _ _⟩
  · have hfin : Mo.grlexC xs ys = Mo.cmpC 1 c xs ys := by simp [Mo.cmpC]
    have HF := Lib.hid hfin; clear hfin
    go_enter Try.func16, Try.ntmps16
    go_wp2
    go_region_with (first | (go_at_call 36; refine (HGL.out _ (HB0.out _ _)).mono ?_; rintro e w1 ⟨rfl, hb1⟩))
    all_goals go_wp2
    all_goals go_ret
    all_goals exact ⟨by rw [← HF.out]; rfl, (HB0.out _ _).trans (hb1.mono (HB0.out _ _).size)⟩
  · have hfin : Mo.grevC xs ys = Mo.cmpC 2 c xs ys := by simp [Mo.cmpC]
    have HF := Lib.hid hfin; clear hfin
    go_enter Try.func16, Try.ntmps16
    go_wp2
    go_region_with (first | (go_at_call 37; refine (HG.out _ (HB0.out _ _)).mono ?_; rintro e w1 ⟨rfl, hb1⟩))
    all_goals go_wp2
    all_goals go_ret
    all_goals exact ⟨by rw [← HF.out]; rfl, (HB0.out _ _).trans (hb1.mono (HB0.out _ _).size)⟩
  · go_enter Try.func16, Try.ntmps16
    go_wp2
    go_region_with (first | (go_at_call 38; refine (HB.out _ (HB0.out _ _)).mono ?_; rintro e w1 ⟨rfl, hb1⟩))
    all_goals go_wp2
    all_goals go_ret
    all_goals exact ⟨rfl, (HB0.out _ _).trans (hb1.mono (HB0.out _ _).size)⟩

set_option maxHeartbeats 400000 in
/-- ref24.Same -/
theorem same_any (v u : Value) (xs ys : List Int) (w : World) (h : Ints w v xs) (k0 : Ints w u ys) :
    Calls Try.prog 18 #[v, u] w fun e w' => e = .returned (.bool (decide (xs = ys))) ∧ ∃ n, w' = w.drewN n := by
  obtain ⟨a, cap, rfl, hcap, hmax, hc⟩ := h
  obtain ⟨a2, cap2, rfl, hcap2, hmax2, hc2⟩ := k0
  by_cases hle : xs.length = ys.length
  · have hb : ((xs.length : Int) != ys.length) = false := by simp [hle]
    have HLE := Lib.hid hle; clear hle
    go_enter Try.func18, Try.ntmps18
    go_wp2
    clear hb
    go_loopw [5] (fun i wr => ∃ k : Nat, k ≤ xs.length ∧ i = .int .i64 k ∧ xs.take k = ys.take k ∧ ∃ n, wr = w.drewN n) (fun i _ => xs.length - (intOf i).toNat)
    case atStart => exact ⟨0, Nat.zero_le _, rfl, rfl, 0, rfl⟩
    case round =>
      obtain ⟨k, hk, rfl, hlx, n, rfl⟩ := hrel
      have HA := Lib.hid hlx; clear hlx
      by_cases hlt : k < xs.length
      · have hlt2 : k < ys.length := by rw [← HLE.out]; exact hlt
        obtain ⟨b, off, rfl, hcell⟩ := hc (by omega)
        obtain ⟨b2, off2, rfl, hcell2⟩ := hc2 (by omega)
        obtain ⟨x, hx⟩ : ∃ x, xs.getD k 0 = x := ⟨_, rfl⟩
        obtain ⟨y, hy⟩ : ∃ y, ys.getD k 0 = y := ⟨_, rfl⟩
        have hck := hcell k hlt
        have hck2 := hcell2 k hlt2
        rw [hx] at hck
        rw [hy] at hck2
        have HX := Lib.hid hx
        have HY := Lib.hid hy
        clear hcell hc hcell2 hc2 hx hy
        by_cases hxy : x = y
        · subst hxy
          have hb0 : (x != x) = false := by simp
          have hst : xs.take (k + 1) = ys.take (k + 1) := by
            rw [List.take_succ_eq_append_getElem hlt, List.take_succ_eq_append_getElem hlt2, HA.out]
            have e1 := HX.out
            have e2 := HY.out
            simp [List.getD, hlt] at e1
            simp [List.getD, hlt2] at e2
            rw [e1, e2]
          have HS := Lib.hid hst; clear hst
          go_wp2
          go_quiet (fail)
          go_wp2
          go_roundw
          case rel => exact ⟨k + 1, by omega, by go_num, HS.out, _, rfl⟩
          case measure => simp [intOf]; omega
        · have hb0 : (x != y) = true := by simp [hxy]
          have hfin : decide (xs = ys) = false := by
            simp only [decide_eq_false_iff_not]
            intro e
            apply hxy
            rw [← HX.out, ← HY.out, e]
          have HF := Lib.hid hfin; clear hfin hxy
          go_wp2
          go_quiet (fail)
          go_wp2
          go_ret
          exact ⟨by rw [HF.out]; rfl, dr_step ⟨_, rfl⟩⟩
      · have hfin : decide (xs = ys) = true := by
          have h1 := HA.out
          rw [List.take_of_length_le (by omega), List.take_of_length_le (by rw [← HLE.out]; omega)] at h1
          simp [h1]
        have HF := Lib.hid hfin; clear hfin
        go_wp2
        go_ret
        exact ⟨by rw [HF.out]; rfl, _, rfl⟩
  · have hb : ((xs.length : Int) != ys.length) = true := by simp; omega
    have hfin : decide (xs = ys) = false := by
      simp only [decide_eq_false_iff_not]
      intro e
      exact hle (by rw [e])
    have HF := Lib.hid hfin; clear hfin hle
    go_enter Try.func18, Try.ntmps18
    go_wp2
    go_ret
    exact ⟨by rw [HF.out]; rfl, 0, rfl⟩

end Go.Proofs.Ytaidopbndlhpgaa
