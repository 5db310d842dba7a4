/-
  The walks of the small functions on exponent lists, fifth part: by degree, then by the first place.
-/
import Derived.Test.YtaidopbndlhpgaaMonoD
namespace Go.Proofs.Ytaidopbndlhpgaa
open Go.RowKit

set_option maxHeartbeats 400000 in
theorem cmpOr_any (v : Value) (xs : List Int) (w : World) (h : Ints w v xs) :
    Calls Try.prog 49 #[v] w fun e w' => e = .returned (.int .i64 (Mo.orL xs)) ∧ w = w' := by
  obtain ⟨a, cap, rfl, hcap, hmax, hc⟩ := h
  go_enter Try.func49, Try.ntmps49
  go_wp2
  go_loop [8] (fun i => ∃ k : Nat, k ≤ xs.length ∧ i = .int .i64 k ∧ Mo.orL (xs.drop k) = Mo.orL xs) (fun i => xs.length - (intOf i).toNat)
  case atStart => exact ⟨0, Nat.zero_le _, rfl, rfl⟩
  case round =>
    obtain ⟨k, hk, rfl, hlx⟩ := hrel
    have HA := Lib.hid hlx; clear hlx
    by_cases hlt : k < xs.length
    · obtain ⟨b, off, rfl, hcell⟩ := hc (by omega)
      have hst := Mo.orL_drop xs k hlt
      obtain ⟨x, hx⟩ : ∃ x, xs.getD k 0 = x := ⟨_, rfl⟩
      have hck := hcell k hlt
      rw [hx] at hck hst
      clear hcell hc hx
      by_cases h0 : x = 0
      · subst h0
        rw [if_pos rfl] at hst
        have HS := Lib.hid hst; clear hst
        go_wp2
        go_round
        case rel => exact ⟨k + 1, by omega, by go_num, by rw [← HA.out, HS.out]⟩
        case measure => simp [intOf]; omega
      · rw [if_neg h0] at hst
        have hb0 : (x != 0) = true := by simp [h0]
        have HS := Lib.hid hst; clear hst h0
        go_wp2
        go_ret
        exact ⟨by rw [← HA.out, HS.out]; rfl, rfl⟩
    · have hfin : Mo.orL xs = 0 := by rw [← HA.out, List.drop_eq_nil_of_le (by omega)]; rfl
      have HF := Lib.hid hfin; clear hfin
      go_wp2
      go_ret
      exact ⟨by rw [HF.out]; rfl, rfl⟩

set_option maxHeartbeats 400000 in
theorem lexWay_any (c : Value) (v u : Value) (xs ys : List Int) (w : World) (h : Ints w v xs) (k : Ints w u ys) :
    Calls Try.prog 34 #[c, v, u] w fun e w' => e = .returned (.int .i64 (Mo.lexC xs ys)) ∧ w = w' := by
  go_enter Try.func34, Try.ntmps34
  go_wp2_with (go_at_call 35; refine (sliceCompare_any _ _ _ _ _ h k).mono ?_; rintro e w' ⟨rfl, rfl⟩)
  go_ret
  exact ⟨rfl, rfl⟩

set_option maxHeartbeats 400000 in
theorem grlex_any (c : Value) (v u : Value) (xs ys : List Int) (w : World) (h : Ints w v xs) (k : Ints w u ys) (hx0 : ∀ x ∈ xs, 0 ≤ x ∧ x ≤ 1000) (hy0 : ∀ x ∈ ys, 0 ≤ x ∧ x ≤ 1000) (hn : xs.length ≤ 1000) (hn2 : ys.length ≤ 1000) :
    Calls Try.prog 36 #[c, v, u] w fun e w' => e = .returned (.int .i64 (Mo.grlexC xs ys)) ∧ Below w.heap.size w w' := by
  have HX0 := Lib.hid hx0; clear hx0
  have HY0 := Lib.hid hy0; clear hy0
  have hor := Mo.orL_grlex xs ys
  obtain ⟨s1, hs1⟩ : ∃ s, Mo.deg xs = s := ⟨_, rfl⟩
  obtain ⟨s2, hs2⟩ : ∃ s, Mo.deg ys = s := ⟨_, rfl⟩
  rw [hs1, hs2] at hor
  have S1 := Lib.hid hs1; clear hs1
  have S2 := Lib.hid hs2; clear hs2
  obtain ⟨r, hr⟩ : ∃ r, Mo.lexC xs ys = r := ⟨_, rfl⟩
  obtain ⟨q, hq⟩ : ∃ r, Mo.sgn (s1 - s2) = r := ⟨_, rfl⟩
  rw [hr, hq] at hor
  have HR := Lib.hid hr; clear hr
  have HQ := Lib.hid hq; clear hq
  have HO := Lib.hid hor; clear hor
  go_enter Try.func36, Try.ntmps36
  go_wp2_with fail
  refine (deg_any _ _ _ h HX0.out hn).mono ?_; rw [S1.out]; rintro e w' ⟨rfl, rfl⟩
  go_wp2_with fail
  refine (deg_any _ _ _ k HY0.out hn2).mono ?_; rw [S2.out]; rintro e w' ⟨rfl, rfl⟩
  go_wp2_with fail
  refine (compare_any _ _ _).mono ?_; rw [HQ.out]; rintro e w' ⟨rfl, rfl⟩
  go_wp2_with fail
  refine (sliceCompare_any _ _ _ _ _ h k).mono ?_; rw [HR.out]; rintro e w' ⟨rfl, rfl⟩
  go_wp2_with fail
  refine (cmpOr_any _ [q, r] _ (ints_new w [q, r] _ (by simp))).mono ?_; rw [HO.out]; rintro e w' ⟨rfl, rfl⟩
  go_wp2
  go_ret
  exact ⟨rfl, (Below.refl _ _).alloc (Nat.le_refl _) _⟩

end Go.Proofs.Ytaidopbndlhpgaa
