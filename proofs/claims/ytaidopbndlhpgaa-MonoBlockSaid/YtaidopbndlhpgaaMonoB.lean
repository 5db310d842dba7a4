/-
  The walks of the small functions on exponent lists, second part.
-/
import Derived.Test.YtaidopbndlhpgaaMonoA
import Derived.BigQuiet
import Derived.Deep.QuietTactic
namespace Go.Proofs.Ytaidopbndlhpgaa
open Go.RowKit

set_option maxHeartbeats 400000 in
theorem vars_any (n : Int) (w : World) : Calls Try.prog 31 #[.int .i64 n] w fun e w' => e = .returned (.bool (decide (0 ≤ n) && decide (n ≤ 6))) ∧ w = w' := by
  by_cases h1 : 0 ≤ n
  · by_cases h2 : n ≤ 6
    · go_enter Try.func31, Try.ntmps31
      go_wp2
      go_ret
      exact ⟨by simp [h1, h2], rfl⟩
    · go_enter Try.func31, Try.ntmps31
      go_wp2
      go_ret
      exact ⟨by simp; omega, rfl⟩
  · go_enter Try.func31, Try.ntmps31
    go_wp2
    go_ret
    exact ⟨by simp; omega, rfl⟩

set_option maxHeartbeats 400000 in
theorem bad_any (x : Int) (w : World) : Calls Try.prog 33 #[.int .i64 x] w fun e w' => e = .returned (.bool (!Mo.okE x)) ∧ w = w' := by
  by_cases h1 : x < 0
  · go_enter Try.func33, Try.ntmps33
    go_wp2
    go_ret
    exact ⟨by rw [(Mo.okE_neg x).2 (by omega)]; rfl, rfl⟩
  · by_cases h2 : 60 < x
    · go_enter Try.func33, Try.ntmps33
      go_wp2
      go_ret
      exact ⟨by rw [(Mo.okE_neg x).2 (by omega)]; rfl, rfl⟩
    · go_enter Try.func33, Try.ntmps33
      go_wp2
      go_ret
      exact ⟨by rw [(Mo.okE_iff x).2 (by omega)]; simp, rfl⟩

set_option maxHeartbeats 400000 in
theorem indexBad_any (v : Value) (xs : List Int) (w : World) (h : Ints w v xs) :
    Calls Try.prog 47 #[v, .func (.func 33) #[] #[]] w fun e w' => ∃ i : Int, e = .returned (.int .i64 i) ∧ decide (0 ≤ i) = !(xs.all Mo.okE) ∧ w = w' := by
  obtain ⟨a, cap, rfl, hcap, hmax, hc⟩ := h
  go_enter Try.func47, Try.ntmps47
  go_wp2
  go_loop [8] (fun i => ∃ k : Nat, k ≤ xs.length ∧ i = .int .i64 k ∧ (xs.take k).all Mo.okE = true) (fun i => xs.length - (intOf i).toNat)
  case atStart => exact ⟨0, Nat.zero_le _, rfl, by simp⟩
  case round =>
    obtain ⟨k, hk, rfl, hall⟩ := hrel
    have HA := Lib.hid hall; clear hall
    by_cases hlt : k < xs.length
    · obtain ⟨b, off, rfl, hcell⟩ := hc (by omega)
      obtain ⟨x, hx⟩ : ∃ x, xs.getD k 0 = x := ⟨_, rfl⟩
      have hck := hcell k hlt
      rw [hx] at hck
      have HX := Lib.hid hx
      clear hcell hc hx
      cases hok : Mo.okE x
      · have HO := Lib.hid hok; clear hok
        go_wp2_with (go_at_call 33; refine (bad_any x _).mono ?_; rw [HO.out]; rintro e w' ⟨rfl, rfl⟩)
        go_ret
        refine ⟨k, rfl, ?_, rfl⟩
        have h5 : (xs.take (k + 1)).all Mo.okE = false := by rw [Mo.all_take_succ _ _ _ hlt, HX.out, HO.out]; simp
        rw [Mo.all_of_take _ _ _ h5]; simp
      · have HO := Lib.hid hok; clear hok
        go_wp2_with (go_at_call 33; refine (bad_any x _).mono ?_; rw [HO.out]; rintro e w' ⟨rfl, rfl⟩)
        go_round
        case rel => exact ⟨k + 1, by omega, by go_num, by rw [Mo.all_take_succ _ _ _ hlt, HA.out, HX.out, HO.out]; rfl⟩
        case measure => simp [intOf]; omega
    · have h6 : xs.take k = xs := List.take_of_length_le (by omega)
      have h7 := HA.out; rw [h6] at h7
      have H7 := Lib.hid h7; clear h7 h6
      go_wp2
      go_ret
      exact ⟨-1, rfl, by rw [H7.out]; rfl, rfl⟩

set_option maxHeartbeats 400000 in
theorem containsBad_any (v : Value) (xs : List Int) (w : World) (h : Ints w v xs) :
    Calls Try.prog 32 #[v, .func (.func 33) #[] #[]] w fun e w' => e = .returned (.bool (!(xs.all Mo.okE))) ∧ w = w' := by
  go_enter Try.func32, Try.ntmps32
  go_wp2_with (go_at_call 47; refine (indexBad_any _ _ _ h).mono ?_; rintro e w' ⟨i, rfl, hi, rfl⟩; have HI := Lib.hid hi; clear hi)
  go_ret
  exact ⟨by rw [← HI.out]; rfl, rfl⟩

set_option maxHeartbeats 400000 in
theorem right_any (n : Int) (v : Value) (xs : List Int) (w : World) (h : Ints w v xs) :
    Calls Try.prog 11 #[.int .i64 n, v] w fun e w' => e = .returned (.bool (Mo.rightB n xs)) ∧ w = w' := by
  have h0 := h
  obtain ⟨a, cap, rfl, hcap, hmax, hc⟩ := h
  by_cases h1 : 0 ≤ n ∧ n ≤ 6
  · have h1' : (decide (0 ≤ n) && decide (n ≤ 6)) = true := by simp [h1]
    have H1 := Lib.hid h1'; clear h1'
    by_cases h3 : (xs.length : Int) = n
    · have h3' : ((xs.length : Int) == n) = true := by simp [h3]
      have hf : Mo.rightB n xs = xs.all Mo.okE := by simp [Mo.rightB, h3, h1.1, h1.2]
      have H := Lib.hid hf; clear hf
      clear hc h1
      have H3 := Lib.hid h3; clear h3
      go_enter Try.func11, Try.ntmps11
      go_wp2_with (first | (go_at_call 31; refine (vars_any _ _).mono ?_; rw [H1.out]; rintro e w' ⟨rfl, rfl⟩) | (go_at_call 32; refine (containsBad_any _ _ _ h0).mono ?_; rintro e w' ⟨rfl, rfl⟩))
      go_ret
      exact ⟨by rw [H.out]; simp, rfl⟩
    · have h3' : ((xs.length : Int) == n) = false := by simp [h3]
      have hf : Mo.rightB n xs = false := by simp [Mo.rightB, h3]
      have H := Lib.hid hf; clear hf
      clear hc h1
      have H3 := Lib.hid h3; clear h3
      go_enter Try.func11, Try.ntmps11
      go_wp2_with (first | (go_at_call 31; refine (vars_any _ _).mono ?_; rw [H1.out]; rintro e w' ⟨rfl, rfl⟩))
      go_ret
      exact ⟨by rw [H.out]; rfl, rfl⟩
  · have h1' : (decide (0 ≤ n) && decide (n ≤ 6)) = false := by simp; omega
    have hf : Mo.rightB n xs = false := by simp only [Mo.rightB]; rw [h1']; rfl
    have H1 := Lib.hid h1'; clear h1'
    have H := Lib.hid hf; clear hf
    clear hc h1
    go_enter Try.func11, Try.ntmps11
    go_wp2_with (first | (go_at_call 31; refine (vars_any _ _).mono ?_; rw [H1.out]; rintro e w' ⟨rfl, rfl⟩))
    go_ret
    exact ⟨by rw [H.out]; rfl, rfl⟩

set_option maxHeartbeats 400000 in
theorem two_any (v u : Value) (xs ys : List Int) (w : World) (h : Ints w v xs) (k : Ints w u ys) :
    Calls Try.prog 15 #[v, u] w fun e w' => e = .returned (.bool (Mo.rightB xs.length xs && Mo.rightB xs.length ys)) ∧ w = w' := by
  have h0 := h
  obtain ⟨a, cap, rfl, hcap, hmax, hc⟩ := h
  clear hc
  cases hr : Mo.rightB xs.length xs
  · have H := Lib.hid hr; clear hr
    go_enter Try.func15, Try.ntmps15
    go_wp2_with (first | (go_at_call 12; refine (refRight_any _ _ _ _ h0).mono ?_; rw [H.out]; rintro e w' ⟨rfl, rfl⟩))
    go_ret
    exact ⟨rfl, rfl⟩
  · have H := Lib.hid hr; clear hr
    go_enter Try.func15, Try.ntmps15
    go_wp2_with (first | (go_at_call 12; refine (refRight_any _ _ _ _ h0).mono ?_; rw [H.out]; rintro e w' ⟨rfl, rfl⟩; clear h0) | (go_at_call 12; refine (refRight_any _ _ _ _ k).mono ?_; rintro e w' ⟨rfl, rfl⟩))
    go_ret
    exact ⟨by simp, rfl⟩

set_option maxHeartbeats 400000 in
theorem deg_any (v : Value) (xs : List Int) (w : World) (h : Ints w v xs) (hl : ∀ x ∈ xs, 0 ≤ x ∧ x ≤ 1000) (hn : xs.length ≤ 1000) :
    Calls Try.prog 30 #[v] w fun e w' => e = .returned (.int .i64 (Mo.deg xs)) ∧ w = w' := by
  obtain ⟨a, cap, rfl, hcap, hmax, hc⟩ := h
  have HL := Lib.hid hl; clear hl
  go_enter Try.func30, Try.ntmps30
  go_wp2
  go_loop [3, 8] (fun s i => ∃ k : Nat, k ≤ xs.length ∧ i = .int .i64 k ∧ s = .int .i64 (Mo.deg (xs.take k))) (fun _ i => xs.length - (intOf i).toNat)
  case atStart => exact ⟨0, Nat.zero_le _, rfl, rfl⟩
  case round =>
    obtain ⟨k, hk, rfl, rfl⟩ := hrel
    by_cases hlt : k < xs.length
    · obtain ⟨b, off, rfl, hcell⟩ := hc (by omega)
      have h2 := Mo.deg_take_bound xs 1000 (by omega) HL.out k
      have h3 := Mo.getD_bound xs 1000 HL.out k hlt
      have h4 := Mo.deg_take_succ xs k hlt
      obtain ⟨x, hx⟩ : ∃ x, xs.getD k 0 = x := ⟨_, rfl⟩
      obtain ⟨s, hs⟩ : ∃ s, Mo.deg (xs.take k) = s := ⟨_, rfl⟩
      have hck := hcell k hlt
      rw [hx] at hck h3 h4
      rw [hs] at h2 h4 ⊢
      have H4 := Lib.hid h4
      clear hcell hc hx hs h4
      go_wp2
      go_round
      case rel => exact ⟨k + 1, by omega, by go_num, by rw [H4.out]⟩
      case measure => simp [intOf]; omega
    · have h6 : xs.take k = xs := List.take_of_length_le (by omega)
      rw [h6]
      clear h6
      go_wp2
      go_ret
      exact ⟨rfl, rfl⟩

set_option maxHeartbeats 400000 in
theorem refDeg_any (v : Value) (xs : List Int) (w : World) (h : Ints w v xs) (hl : ∀ x ∈ xs, 0 ≤ x ∧ x ≤ 1000) (hn : xs.length ≤ 1000) :
    Calls Try.prog 19 #[v] w fun e w' => e = .returned (.int .i64 (Mo.deg xs)) ∧ w = w' := by
  obtain ⟨a, cap, rfl, hcap, hmax, hc⟩ := h
  have HL := Lib.hid hl; clear hl
  go_enter Try.func19, Try.ntmps19
  go_wp2
  go_loop [3, 4] (fun s i => ∃ k : Nat, k ≤ xs.length ∧ i = .int .i64 k ∧ s = .int .i64 (Mo.deg (xs.take k))) (fun _ i => xs.length - (intOf i).toNat)
  case atStart => exact ⟨0, Nat.zero_le _, rfl, rfl⟩
  case round =>
    obtain ⟨k, hk, rfl, rfl⟩ := hrel
    by_cases hlt : k < xs.length
    · obtain ⟨b, off, rfl, hcell⟩ := hc (by omega)
      have h2 := Mo.deg_take_bound xs 1000 (by omega) HL.out k
      have h3 := Mo.getD_bound xs 1000 HL.out k hlt
      have h4 := Mo.deg_take_succ xs k hlt
      obtain ⟨x, hx⟩ : ∃ x, xs.getD k 0 = x := ⟨_, rfl⟩
      obtain ⟨s, hs⟩ : ∃ s, Mo.deg (xs.take k) = s := ⟨_, rfl⟩
      have hck := hcell k hlt
      rw [hx] at hck h3 h4
      rw [hs] at h2 h4 ⊢
      have H4 := Lib.hid h4
      clear hcell hc hx hs h4
      go_wp2
      go_round
      case rel => exact ⟨k + 1, by omega, by go_num, by rw [H4.out]⟩
      case measure => simp [intOf]; omega
    · have h6 : xs.take k = xs := List.take_of_length_le (by omega)
      rw [h6]
      clear h6
      go_wp2
      go_ret
      exact ⟨rfl, rfl⟩

end Go.Proofs.Ytaidopbndlhpgaa
