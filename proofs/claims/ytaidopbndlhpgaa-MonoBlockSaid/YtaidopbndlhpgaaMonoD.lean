/-
  The walks of the small functions on exponent lists, fourth part: regions that draw.
-/
import Derived.Test.YtaidopbndlhpgaaMonoC
namespace Go.Proofs.Ytaidopbndlhpgaa
open Go.RowKit

set_option maxHeartbeats 400000 in
theorem lex_any (v u : Value) (xs ys : List Int) (w : World) (h : Ints w v xs) (k0 : Ints w u ys) (hle : xs.length = ys.length) (hx0 : ∀ x ∈ xs, 0 ≤ x ∧ x ≤ 1000) (hy0 : ∀ x ∈ ys, 0 ≤ x ∧ x ≤ 1000) :
    Calls Try.prog 39 #[v, u] w fun e w' => e = .returned (.int .i64 (Mo.lexC xs ys)) ∧ ∃ n, w' = w.drewN n := by
  obtain ⟨a, cap, rfl, hcap, hmax, hc⟩ := h
  obtain ⟨a2, cap2, rfl, hcap2, hmax2, hc2⟩ := k0
  have HLE := Lib.hid hle; clear hle
  have HX0 := Lib.hid hx0; clear hx0
  have HY0 := Lib.hid hy0; clear hy0
  go_enter Try.func39, Try.ntmps39
  go_wp2
  go_loopw [5] (fun i wr => ∃ k : Nat, k ≤ xs.length ∧ i = .int .i64 k ∧ Mo.lexC (xs.drop k) (ys.drop k) = Mo.lexC xs ys ∧ ∃ n, wr = w.drewN n) (fun i _ => xs.length - (intOf i).toNat)
  case atStart => exact ⟨0, Nat.zero_le _, rfl, rfl, 0, rfl⟩
  case round =>
    obtain ⟨k, hk, rfl, hlx, n, rfl⟩ := hrel
    have HA := Lib.hid hlx; clear hlx
    by_cases hlt : k < xs.length
    · have hlt2 : k < ys.length := by rw [← HLE.out]; exact hlt
      obtain ⟨b, off, rfl, hcell⟩ := hc (by omega)
      obtain ⟨b2, off2, rfl, hcell2⟩ := hc2 (by omega)
      have hst := Mo.lexC_drop xs ys k hlt hlt2
      have bx := Mo.getD_bound xs 1000 HX0.out k hlt
      have by' := Mo.getD_bound ys 1000 HY0.out k hlt2
      obtain ⟨x, hx⟩ : ∃ x, xs.getD k 0 = x := ⟨_, rfl⟩
      obtain ⟨y, hy⟩ : ∃ y, ys.getD k 0 = y := ⟨_, rfl⟩
      have hck := hcell k hlt
      have hck2 := hcell2 k hlt2
      rw [hx] at hck hst bx
      rw [hy] at hck2 hst by'
      have HS := Lib.hid hst
      clear hcell hc hcell2 hc2 hx hy hst
      by_cases hxy : x = y
      · subst hxy
        have hb0 : (x != x) = false := by simp
        go_wp2
        go_quiet (fail)
        go_wp2
        go_roundw
        case rel => exact ⟨k + 1, by omega, by go_num, by rw [← HA.out, HS.out]; simp, _, rfl⟩
        case measure => simp [intOf]; omega
      · have hb0 : (x != y) = true := by simp [hxy]
        have hfin : Mo.sgn (x - y) = Mo.lexC xs ys := by rw [← HA.out, HS.out, if_neg hxy]
        have HF := Lib.hid hfin; clear hfin HS HA hxy
        go_wp2
        go_quiet (fail)
        go_wp2
        have hw : IntKind.i64.wrap (x - y) = x - y := IntWalk.i64_in _ (by omega)
        go_quiet ((go_at_call 40; exact quiet_eq' (sign_any _ _)))
        go_wp2
        go_ret
        exact ⟨by rw [← HF.out]; rfl, dr_step (dr_step ⟨_, rfl⟩)⟩
    · have hfin : Mo.lexC xs ys = 0 := by
        rw [← HA.out, Mo.lexC_end xs ys k (by omega), if_neg (by have := HLE.out; omega)]
      have HF := Lib.hid hfin; clear hfin
      go_wp2
      go_ret
      exact ⟨by rw [HF.out]; rfl, _, rfl⟩

set_option maxHeartbeats 400000 in
theorem grev_any (v u : Value) (xs ys : List Int) (w : World) (h : Ints w v xs) (k0 : Ints w u ys) (hle : xs.length = ys.length) (hn : xs.length ≤ 1000) (hx0 : ∀ x ∈ xs, 0 ≤ x ∧ x ≤ 1000) (hy0 : ∀ x ∈ ys, 0 ≤ x ∧ x ≤ 1000) :
    Calls Try.prog 41 #[v, u] w fun e w' => e = .returned (.int .i64 (Mo.grevC xs ys)) ∧ ∃ n, w' = w.drewN n := by
  have h1 := h
  have h2 := k0
  obtain ⟨a, cap, rfl, hcap, hmax, hc⟩ := h
  obtain ⟨a2, cap2, rfl, hcap2, hmax2, hc2⟩ := k0
  have hn2 : ys.length ≤ 1000 := by omega
  have d1 := Mo.deg_small xs hx0 hn
  have d2 := Mo.deg_small ys hy0 hn2
  have HLE := Lib.hid hle; clear hle
  have HX0 := Lib.hid hx0; clear hx0
  have HY0 := Lib.hid hy0; clear hy0
  by_cases hd : Mo.deg xs = Mo.deg ys
  · have hb : (Mo.deg xs != Mo.deg ys) = false := by simp [hd]
    have hfin : Mo.grevC xs ys = Mo.lexC ys.reverse xs.reverse := by unfold Mo.grevC; rw [if_pos hd]
    have HF := Lib.hid hfin; clear hfin
    have HD := Lib.hid hd; clear hd
    obtain ⟨s1, hs1⟩ : ∃ s, Mo.deg xs = s := ⟨_, rfl⟩
    obtain ⟨s2, hs2⟩ : ∃ s, Mo.deg ys = s := ⟨_, rfl⟩
    rw [hs1, hs2] at hb
    rw [hs1] at d1
    rw [hs2] at d2
    have S1 := Lib.hid hs1; clear hs1
    have S2 := Lib.hid hs2; clear hs2
    go_enter Try.func41, Try.ntmps41
    go_wp2_with (first | (go_at_call 19; refine (refDeg_any _ _ _ h1 HX0.out hn).mono ?_; rw [S1.out]; rintro e w' ⟨rfl, rfl⟩; clear h1) | (go_at_call 19; refine (refDeg_any _ _ _ h2 HY0.out hn2).mono ?_; rw [S2.out]; rintro e w' ⟨rfl, rfl⟩))
    clear h2 hb
    go_loopw [5] (fun i wr => ∃ k : Nat, k ≤ xs.length ∧ i = .int .i64 ((k : Int) - 1) ∧ Mo.lexC (ys.take k).reverse (xs.take k).reverse = Mo.grevC xs ys ∧ ∃ n, wr = w.drewN n) (fun i _ => (intOf i + 1).toNat)
    case atStart => exact ⟨xs.length, Nat.le_refl _, rfl, by rw [HF.out, List.take_of_length_le (Nat.le_refl _), List.take_of_length_le (by rw [HLE.out]; omega)], 0, rfl⟩
    case round =>
      obtain ⟨k', hk, rfl, hlx, n, rfl⟩ := hrel
      have HA := Lib.hid hlx; clear hlx
      cases k' with
      | zero =>
        have hfin : Mo.grevC xs ys = 0 := by rw [← HA.out]; rfl
        have HG := Lib.hid hfin; clear hfin
        go_wp2
        go_ret
        exact ⟨by rw [HG.out]; rfl, _, rfl⟩
      | succ k =>
        have hlt : k < xs.length := by omega
        have hlt2 : k < ys.length := by rw [← HLE.out]; exact hlt
        obtain ⟨b, off, rfl, hcell⟩ := hc (by omega)
        obtain ⟨b2, off2, rfl, hcell2⟩ := hc2 (by omega)
        have hst := Mo.lexC_rev_step ys xs k hlt2 hlt
        have bx := Mo.getD_bound xs 1000 HX0.out k hlt
        have by' := Mo.getD_bound ys 1000 HY0.out k hlt2
        obtain ⟨x, hx⟩ : ∃ x, xs.getD k 0 = x := ⟨_, rfl⟩
        obtain ⟨y, hy⟩ : ∃ y, ys.getD k 0 = y := ⟨_, rfl⟩
        have hck := hcell k hlt
        have hck2 := hcell2 k hlt2
        rw [hx] at hck hst bx
        rw [hy] at hck2 hst by'
        have HS := Lib.hid hst
        clear hcell hc hcell2 hc2 hx hy hst
        rw [show ((k + 1 : Nat) : Int) - 1 = (k : Int) by omega]
        by_cases hxy : x = y
        · subst hxy
          have hb0 : (x != x) = false := by simp
          go_wp2
          go_quiet (fail)
          go_wp2
          go_roundw
          case rel => exact ⟨k, by omega, by go_num, by rw [← HA.out, HS.out]; simp, _, rfl⟩
          case measure => simp [intOf]
        · have hb0 : (x != y) = true := by simp [hxy]
          have hfin : Mo.sgn (y - x) = Mo.grevC xs ys := by rw [← HA.out, HS.out, if_neg (by omega)]
          have HG := Lib.hid hfin; clear hfin HS HA hxy
          go_wp2
          go_quiet (fail)
          go_wp2
          have hw : IntKind.i64.wrap (y - x) = y - x := IntWalk.i64_in _ (by omega)
          go_quiet ((go_at_call 40; exact quiet_eq' (sign_any _ _)))
          go_wp2
          go_ret
          exact ⟨by rw [← HG.out]; rfl, dr_step (dr_step ⟨_, rfl⟩)⟩
  · have hb : (Mo.deg xs != Mo.deg ys) = true := by simp [hd]
    have hfin : Mo.grevC xs ys = Mo.sgn (Mo.deg xs - Mo.deg ys) := by unfold Mo.grevC; rw [if_neg hd]
    have HF := Lib.hid hfin; clear hfin hd
    obtain ⟨s1, hs1⟩ : ∃ s, Mo.deg xs = s := ⟨_, rfl⟩
    obtain ⟨s2, hs2⟩ : ∃ s, Mo.deg ys = s := ⟨_, rfl⟩
    rw [hs1, hs2] at hb
    rw [hs1] at d1
    rw [hs2] at d2
    have S1 := Lib.hid hs1; clear hs1
    have S2 := Lib.hid hs2; clear hs2
    clear hc hc2
    go_enter Try.func41, Try.ntmps41
    go_wp2_with fail
    refine (refDeg_any _ _ _ h1 HX0.out hn).mono ?_; rw [S1.out]; rintro e w' ⟨rfl, rfl⟩
    go_wp2_with fail
    refine (refDeg_any _ _ _ h2 HY0.out hn2).mono ?_; rw [S2.out]; rintro e w' ⟨rfl, rfl⟩
    go_wp2_with fail
    refine (refDeg_any _ _ _ h1 HX0.out hn).mono ?_; rw [S1.out]; rintro e w' ⟨rfl, rfl⟩
    go_wp2_with fail
    refine (refDeg_any _ _ _ h2 HY0.out hn2).mono ?_; rw [S2.out]; rintro e w' ⟨rfl, rfl⟩
    go_wp2_with (go_at_call 40; refine (sign_any _ _).mono ?_; rintro e w' ⟨rfl, rfl⟩)
    go_ret
    exact ⟨by rw [HF.out, S1.out, S2.out]; rfl, 0, rfl⟩

end Go.Proofs.Ytaidopbndlhpgaa
