/-
  The walks of the small functions on exponent lists, third part: comparing.
-/
import Derived.Test.YtaidopbndlhpgaaMonoB
namespace Go.Proofs.Ytaidopbndlhpgaa
open Go.RowKit

set_option maxHeartbeats 400000 in
theorem isNaN_any (x : Int) (w : World) : Calls Try.prog 51 #[.int .i64 x] w fun e w' => e = .returned (.bool false) ∧ w = w' := by
  go_enter Try.func51, Try.ntmps51
  go_wp2
  go_ret
  exact ⟨by simp, rfl⟩

set_option maxHeartbeats 400000 in
theorem compare_any (x y : Int) (w : World) : Calls Try.prog 48 #[.int .i64 x, .int .i64 y] w fun e w' => e = .returned (.int .i64 (Mo.sgn (x - y))) ∧ w = w' := by
  by_cases h1 : x < y
  · go_enter Try.func48, Try.ntmps48
    go_wp2_with (go_at_call 51; refine (isNaN_any _ _).mono ?_; rintro e w' ⟨rfl, rfl⟩)
    go_ret
    exact ⟨by rw [Mo.sgn_neg (by omega)]; rfl, rfl⟩
  · by_cases h2 : y < x
    · go_enter Try.func48, Try.ntmps48
      go_wp2_with (go_at_call 51; refine (isNaN_any _ _).mono ?_; rintro e w' ⟨rfl, rfl⟩)
      go_ret
      exact ⟨by rw [Mo.sgn_pos (by omega)]; rfl, rfl⟩
    · obtain rfl : x = y := by omega
      go_enter Try.func48, Try.ntmps48
      go_wp2_with (go_at_call 51; refine (isNaN_any _ _).mono ?_; rintro e w' ⟨rfl, rfl⟩)
      go_ret
      exact ⟨by rw [Int.sub_self]; rfl, rfl⟩

set_option maxHeartbeats 400000 in
theorem sign_any (x : Int) (w : World) : Calls Try.prog 40 #[.int .i64 x] w fun e w' => e = .returned (.int .i64 (Mo.sgn x)) ∧ w = w' := by
  by_cases h1 : x < 0
  · go_enter Try.func40, Try.ntmps40
    go_wp2
    go_ret
    exact ⟨by rw [Mo.sgn_neg (by omega)]; rfl, rfl⟩
  · by_cases h2 : 0 < x
    · go_enter Try.func40, Try.ntmps40
      go_wp2
      go_ret
      exact ⟨by rw [Mo.sgn_pos (by omega)]; rfl, rfl⟩
    · obtain rfl : x = 0 := by omega
      go_enter Try.func40, Try.ntmps40
      go_wp2
      go_ret
      exact ⟨rfl, rfl⟩

set_option maxHeartbeats 400000 in
theorem sliceCompare_any (v u : Value) (xs ys : List Int) (w : World) (h : Ints w v xs) (k0 : Ints w u ys) :
    Calls Try.prog 35 #[v, u] w fun e w' => e = .returned (.int .i64 (Mo.lexC xs ys)) ∧ w = w' := by
  obtain ⟨a, cap, rfl, hcap, hmax, hc⟩ := h
  obtain ⟨a2, cap2, rfl, hcap2, hmax2, hc2⟩ := k0
  go_enter Try.func35, Try.ntmps35
  go_wp2
  go_loop [11] (fun i => ∃ k : Nat, k ≤ xs.length ∧ k ≤ ys.length ∧ i = .int .i64 k ∧ Mo.lexC (xs.drop k) (ys.drop k) = Mo.lexC xs ys) (fun i => xs.length - (intOf i).toNat)
  case atStart => exact ⟨0, Nat.zero_le _, Nat.zero_le _, rfl, rfl⟩
  case round =>
    obtain ⟨k, hk, hk2, rfl, hlx⟩ := hrel
    have HA := Lib.hid hlx; clear hlx
    by_cases hlt : k < xs.length
    · by_cases hlt2 : k < ys.length
      · obtain ⟨b, off, rfl, hcell⟩ := hc (by omega)
        obtain ⟨b2, off2, rfl, hcell2⟩ := hc2 (by omega)
        have hst := Mo.lexC_drop xs ys k hlt hlt2
        obtain ⟨x, hx⟩ : ∃ x, xs.getD k 0 = x := ⟨_, rfl⟩
        obtain ⟨y, hy⟩ : ∃ y, ys.getD k 0 = y := ⟨_, rfl⟩
        have hck := hcell k hlt
        have hck2 := hcell2 k hlt2
        rw [hx] at hck hst
        rw [hy] at hck2 hst
        have HS := Lib.hid hst
        clear hcell hc hcell2 hc2 hx hy hst
        by_cases hxy : x = y
        · subst hxy
          have hs0 : Mo.sgn (x - x) = 0 := by rw [Int.sub_self]; rfl
          have HS0 := Lib.hid hs0; clear hs0
          go_wp2_with (go_at_call 48; refine (compare_any _ _ _).mono ?_; rw [HS0.out]; rintro e w' ⟨rfl, rfl⟩)
          go_round
          case rel => exact ⟨k + 1, by omega, by omega, by go_num, by rw [← HA.out, HS.out]; simp⟩
          case measure => simp [intOf]; omega
        · have hs0 := Mo.sgn_ne hxy
          have hfin : Mo.sgn (x - y) = Mo.lexC xs ys := by rw [← HA.out, HS.out, if_neg hxy]
          have HF := Lib.hid hfin; clear hfin HS HA
          obtain ⟨s, hs⟩ : ∃ s, Mo.sgn (x - y) = s := ⟨_, rfl⟩
          rw [hs] at hs0
          have HT := Lib.hid hs; clear hs
          go_wp2_with (go_at_call 48; refine (compare_any _ _ _).mono ?_; rw [HT.out]; rintro e w' ⟨rfl, rfl⟩)
          go_ret
          exact ⟨by rw [← HF.out, HT.out]; rfl, rfl⟩
      · obtain ⟨b, off, rfl, hcell⟩ := hc (by omega)
        have hck := hcell k hlt
        have hfin : Mo.lexC xs ys = 1 := by rw [← HA.out]; exact Mo.lexC_over xs ys k hlt (by omega)
        have HF := Lib.hid hfin; clear hfin hcell hc
        go_wp2
        go_ret
        exact ⟨by rw [HF.out]; rfl, rfl⟩
    · have hfin := HA.out
      rw [Mo.lexC_end xs ys k (by omega)] at hfin
      by_cases hlt2 : k < ys.length
      · rw [if_pos hlt2] at hfin
        have HF := Lib.hid hfin; clear hfin
        have h9 : (xs.length : Int) < ys.length := by omega
        go_wp2
        go_ret
        exact ⟨by rw [← HF.out]; rfl, rfl⟩
      · rw [if_neg hlt2] at hfin
        have HF := Lib.hid hfin; clear hfin
        have h9 : ¬ (xs.length : Int) < ys.length := by omega
        go_wp2
        go_ret
        exact ⟨by rw [← HF.out]; rfl, rfl⟩

end Go.Proofs.Ytaidopbndlhpgaa
