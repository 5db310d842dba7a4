/-
  The walks of the small functions on exponent lists, twelfth part.
-/
import Derived.Test.YtaidopbndlhpgaaMonoK
namespace Go.Proofs.Ytaidopbndlhpgaa
open Go.RowKit

set_option maxHeartbeats 2000000 in
theorem refDivides_any (v u : Value) (xs ys : List Int) (w : World) (h : Ints w v xs) (k0 : Ints w u ys) (hle : xs.length = ys.length) :
    Calls Try.prog 25 #[v, u] w fun e w' => e = .returned (.bool (Mo.dvd xs ys)) ∧ ∃ n, w' = w.drewN n := by
  obtain ⟨a, cap, rfl, hcap, hmax, hc⟩ := h
  obtain ⟨a2, cap2, rfl, hcap2, hmax2, hc2⟩ := k0
  have HLE := Lib.hid hle; clear hle
  have hzs := fun k (h1 : k < xs.length) (h2 : k < ys.length) => Mo.zipWith_take_succ (fun x y => y - x) xs ys k h1 h2
  have HZS := Lib.hid hzs; clear hzs
  go_enter Try.func25, Try.ntmps25
  go_wp2
  go_loopw [5] (fun i wr => ∃ k : Nat, k ≤ xs.length ∧ i = .int .i64 k ∧ ((List.zipWith (fun x y => y - x) xs ys).take k).all (fun d => decide (0 ≤ d)) = true ∧ ∃ n, wr = w.drewN n) (fun i _ => xs.length - (intOf i).toNat)
  case atStart => exact ⟨0, Nat.zero_le _, rfl, by simp, 0, rfl⟩
  case round =>
    obtain ⟨k, hk, rfl, hall, n, rfl⟩ := hrel
    have HA := Lib.hid hall; clear hall
    by_cases hlt : k < xs.length
    · have hlt2 : k < ys.length := by rw [← HLE.out]; exact hlt
      obtain ⟨b, off, rfl, hcell⟩ := hc (by omega)
      obtain ⟨b2, off2, rfl, hcell2⟩ := hc2 (by omega)
      have hst := HZS.out k hlt hlt2
      obtain ⟨x, hx⟩ : ∃ x, xs.getD k 0 = x := ⟨_, rfl⟩
      obtain ⟨y, hy⟩ : ∃ y, ys.getD k 0 = y := ⟨_, rfl⟩
      have hck := hcell k hlt
      have hck2 := hcell2 k hlt2
      rw [hx] at hck hst
      rw [hy] at hck2 hst
      have HS := Lib.hid hst
      clear hcell hc hcell2 hc2 hx hy hst
      by_cases hxy : y < x
      · have hf : Mo.dvd xs ys = false := by
          have h5 : ((List.zipWith (fun x y => y - x) xs ys).take (k + 1)).all (fun d => decide (0 ≤ d)) = false := by
            rw [HS.out, List.all_append]; simp; intro _; omega
          unfold Mo.dvd
          exact Mo.all_of_take _ _ _ h5
        have HF := Lib.hid hf; clear hf HS HA
        go_wp2
        go_quiet (fail)
        go_wp2
        go_ret
        exact ⟨by rw [HF.out]; rfl, dr_step ⟨_, rfl⟩⟩
      · have ha : ((List.zipWith (fun x y => y - x) xs ys).take (k + 1)).all (fun d => decide (0 ≤ d)) = true := by
          rw [HS.out, List.all_append, HA.out]; simp; omega
        have HA2 := Lib.hid ha; clear ha HS HA
        go_wp2
        go_quiet (fail)
        go_wp2
        go_roundw
        case rel => exact ⟨k + 1, by omega, by go_num, HA2.out, _, rfl⟩
        case measure => simp [intOf]; omega
    · have ht : Mo.dvd xs ys = true := by
        unfold Mo.dvd
        have h5 := HA.out
        rw [List.take_of_length_le (by simp; omega)] at h5
        exact h5
      have HT := Lib.hid ht; clear ht
      go_wp2
      go_ret
      exact ⟨by rw [HT.out]; rfl, _, rfl⟩

set_option maxHeartbeats 2000000 in
theorem divides_any (v u : Value) (xs ys : List Int) (w : World) (h : Ints w v xs) (k0 : Ints w u ys) (hle : xs.length = ys.length) :
    Calls Try.prog 21 #[v, u] w fun e w' => e = .returned (.bool (Mo.dvd xs ys)) ∧ ∃ n, w' = w.drewN n := by
  obtain ⟨a, cap, rfl, hcap, hmax, hc⟩ := h
  obtain ⟨a2, cap2, rfl, hcap2, hmax2, hc2⟩ := k0
  have HLE := Lib.hid hle; clear hle
  have hzs := fun k (h1 : k < xs.length) (h2 : k < ys.length) => Mo.zipWith_take_succ (fun x y => y - x) xs ys k h1 h2
  have HZS := Lib.hid hzs; clear hzs
  go_enter Try.func21, Try.ntmps21
  go_wp2
  go_loopw [9] (fun i wr => ∃ k : Nat, k ≤ xs.length ∧ i = .int .i64 k ∧ ((List.zipWith (fun x y => y - x) xs ys).take k).all (fun d => decide (0 ≤ d)) = true ∧ ∃ n, wr = w.drewN n) (fun i _ => xs.length - (intOf i).toNat)
  case atStart => exact ⟨0, Nat.zero_le _, rfl, by simp, 0, rfl⟩
  case round =>
    obtain ⟨k, hk, rfl, hall, n, rfl⟩ := hrel
    have HA := Lib.hid hall; clear hall
    by_cases hlt : k < xs.length
    · have hlt2 : k < ys.length := by rw [← HLE.out]; exact hlt
      obtain ⟨b, off, rfl, hcell⟩ := hc (by omega)
      obtain ⟨b2, off2, rfl, hcell2⟩ := hc2 (by omega)
      have hst := HZS.out k hlt hlt2
      obtain ⟨x, hx⟩ : ∃ x, xs.getD k 0 = x := ⟨_, rfl⟩
      obtain ⟨y, hy⟩ : ∃ y, ys.getD k 0 = y := ⟨_, rfl⟩
      have hck := hcell k hlt
      have hck2 := hcell2 k hlt2
      rw [hx] at hck hst
      rw [hy] at hck2 hst
      have HS := Lib.hid hst
      clear hcell hc hcell2 hc2 hx hy hst
      by_cases hxy : y < x
      · have hf : Mo.dvd xs ys = false := by
          have h5 : ((List.zipWith (fun x y => y - x) xs ys).take (k + 1)).all (fun d => decide (0 ≤ d)) = false := by
            rw [HS.out, List.all_append]; simp; intro _; omega
          unfold Mo.dvd
          exact Mo.all_of_take _ _ _ h5
        have HF := Lib.hid hf; clear hf HS HA
        go_wp2
        go_wp2
        go_ret
        exact ⟨by rw [HF.out]; rfl, _, rfl⟩
      · have ha : ((List.zipWith (fun x y => y - x) xs ys).take (k + 1)).all (fun d => decide (0 ≤ d)) = true := by
          rw [HS.out, List.all_append, HA.out]; simp; omega
        have HA2 := Lib.hid ha; clear ha HS HA
        go_wp2
        go_wp2
        go_roundw
        case rel => exact ⟨k + 1, by omega, by go_num, HA2.out, _, rfl⟩
        case measure => simp [intOf]; omega
    · have ht : Mo.dvd xs ys = true := by
        unfold Mo.dvd
        have h5 := HA.out
        rw [List.take_of_length_le (by simp; omega)] at h5
        exact h5
      have HT := Lib.hid ht; clear ht
      go_wp2
      go_ret
      exact ⟨by rw [HT.out]; rfl, _, rfl⟩

theorem add2_any (x y : Int) (w : World) (hx0 : 0 ≤ x) (hx1 : x ≤ 1000) (hy0 : 0 ≤ y) (hy1 : y ≤ 1000) : Calls Try.prog 43 #[.int .i64 x, .int .i64 y] w fun e w' => e = .returned (.int .i64 (x + y)) ∧ w = w' := by
  go_enter Try.func43, Try.ntmps43
  go_wp2
  go_ret
  exact ⟨rfl, rfl⟩

theorem sub2_any (x y : Int) (w : World) (hx0 : 0 ≤ x) (hx1 : x ≤ 1000) (hy0 : 0 ≤ y) (hy1 : y ≤ 1000) : Calls Try.prog 44 #[.int .i64 x, .int .i64 y] w fun e w' => e = .returned (.int .i64 (x - y)) ∧ w = w' := by
  go_enter Try.func44, Try.ntmps44
  go_wp2
  go_ret
  exact ⟨rfl, rfl⟩

theorem max2_any (x y : Int) (w : World) (_hx0 : 0 ≤ x) (_hx1 : x ≤ 1000) (_hy0 : 0 ≤ y) (_hy1 : y ≤ 1000) : Calls Try.prog 45 #[.int .i64 x, .int .i64 y] w fun e w' => e = .returned (.int .i64 (max x y)) ∧ w = w' := by
  by_cases h1 : x < y
  · go_enter Try.func45, Try.ntmps45
    go_wp2
    go_ret
    exact ⟨by rw [show max x y = y by omega]; rfl, rfl⟩
  · by_cases h2 : y < x
    · go_enter Try.func45, Try.ntmps45
      go_wp2
      go_ret
      exact ⟨by rw [show max x y = x by omega]; rfl, rfl⟩
    · obtain rfl : x = y := by omega
      go_enter Try.func45, Try.ntmps45
      go_wp2
      go_ret
      exact ⟨rfl, rfl⟩

theorem min2_any (x y : Int) (w : World) (_hx0 : 0 ≤ x) (_hx1 : x ≤ 1000) (_hy0 : 0 ≤ y) (_hy1 : y ≤ 1000) : Calls Try.prog 46 #[.int .i64 x, .int .i64 y] w fun e w' => e = .returned (.int .i64 (min x y)) ∧ w = w' := by
  by_cases h1 : x < y
  · go_enter Try.func46, Try.ntmps46
    go_wp2
    go_ret
    exact ⟨by rw [show min x y = x by omega]; rfl, rfl⟩
  · by_cases h2 : y < x
    · go_enter Try.func46, Try.ntmps46
      go_wp2
      go_ret
      exact ⟨by rw [show min x y = y by omega]; rfl, rfl⟩
    · obtain rfl : x = y := by omega
      go_enter Try.func46, Try.ntmps46
      go_wp2
      go_ret
      exact ⟨rfl, rfl⟩


end Go.Proofs.Ytaidopbndlhpgaa
