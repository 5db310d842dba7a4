/-
  The walks of the small functions on exponent lists, thirteenth part: products, quotients, orders.
-/
import Derived.Test.YtaidopbndlhpgaaMonoL
namespace Go.Proofs.Ytaidopbndlhpgaa
open Go.RowKit

theorem add2_enters (args : Array Value) (w : World) : (callFunc 43 args).run Try.prog w = .ok (.enter 43 args) w := enters_of Try.func43 (by kernel_rfl) rfl args w
theorem sub2_enters (args : Array Value) (w : World) : (callFunc 44 args).run Try.prog w = .ok (.enter 44 args) w := enters_of Try.func44 (by kernel_rfl) rfl args w
theorem max2_enters (args : Array Value) (w : World) : (callFunc 45 args).run Try.prog w = .ok (.enter 45 args) w := enters_of Try.func45 (by kernel_rfl) rfl args w
theorem min2_enters (args : Array Value) (w : World) : (callFunc 46 args).run Try.prog w = .ok (.enter 46 args) w := enters_of Try.func46 (by kernel_rfl) rfl args w

set_option maxHeartbeats 400000 in
theorem lcm_any (v u : Value) (xs ys : List Int) (w : World) (h : Ints w v xs) (k : Ints w u ys) (hle : xs.length = ys.length) (hx0 : ∀ x ∈ xs, 0 ≤ x ∧ x ≤ 1000) (hy0 : ∀ x ∈ ys, 0 ≤ x ∧ x ≤ 1000) (hn : xs.length ≤ 1000) :
    Calls Try.prog 26 #[v, u] w fun e w' => ∃ r, e = .returned r ∧ OwnI w' w.heap.size r (List.zipWith max xs ys) ∧ Below w.heap.size w w' := by
  have hc := zip_any 45 max max2_enters (fun x y W a b c d => max2_any x y W a b c d) v u xs ys w h k hle hx0 hy0 hn
  have HC := Lib.hid hc; clear hc hle hx0 hy0 hn h k
  go_enter Try.func26, Try.ntmps26
  go_wp2_with fail
  refine HC.out.mono ?_
  rintro e w1 ⟨r, rfl, ho, hb⟩
  go_wp2
  go_ret
  exact ⟨r, rfl, ho, hb⟩

set_option maxHeartbeats 400000 in
theorem gcd_any (v u : Value) (xs ys : List Int) (w : World) (h : Ints w v xs) (k : Ints w u ys) (hle : xs.length = ys.length) (hx0 : ∀ x ∈ xs, 0 ≤ x ∧ x ≤ 1000) (hy0 : ∀ x ∈ ys, 0 ≤ x ∧ x ≤ 1000) (hn : xs.length ≤ 1000) :
    Calls Try.prog 28 #[v, u] w fun e w' => ∃ r, e = .returned r ∧ OwnI w' w.heap.size r (List.zipWith min xs ys) ∧ Below w.heap.size w w' := by
  have hc := zip_any 46 min min2_enters (fun x y W a b c d => min2_any x y W a b c d) v u xs ys w h k hle hx0 hy0 hn
  have HC := Lib.hid hc; clear hc hle hx0 hy0 hn h k
  go_enter Try.func28, Try.ntmps28
  go_wp2_with fail
  refine HC.out.mono ?_
  rintro e w1 ⟨r, rfl, ho, hb⟩
  go_wp2
  go_ret
  exact ⟨r, rfl, ho, hb⟩

set_option maxHeartbeats 400000 in
theorem div_any (v u : Value) (xs ys : List Int) (w : World) (h : Ints w v xs) (k : Ints w u ys) (hle : xs.length = ys.length) (hx0 : ∀ x ∈ xs, 0 ≤ x ∧ x ≤ 1000) (hy0 : ∀ x ∈ ys, 0 ≤ x ∧ x ≤ 1000) (hn : xs.length ≤ 1000) :
    Calls Try.prog 23 #[v, u] w fun e w' => ∃ r, e = .returned (.tuple #[r, .bool (Mo.dvd ys xs)]) ∧ OwnI w' w.heap.size r (Mo.divL xs ys) ∧ Below w.heap.size w w' := by
  have hc := zip_any 44 (· - ·) sub2_enters (fun x y W a b c d => sub2_any x y W a b c d) v u xs ys w h k hle hx0 hy0 hn
  have hd := divides_any u v ys xs w k h hle.symm
  cases hdv : Mo.dvd ys xs
  · rw [hdv] at hd
    have HD := Lib.hid hd; clear hd hc
    have hl : Mo.divL xs ys = [] := Mo.divL_no hdv
    have HL := Lib.hid hl; clear hl hdv hle hx0 hy0 hn h k
    go_enter Try.func23, Try.ntmps23
    go_wp2_with fail
    refine HD.out.mono ?_
    rintro e w1 ⟨rfl, n, rfl⟩
    go_wp2
    go_ret2
    exact ⟨_, rfl, by rw [HL.out]; exact World.ownsRow_nil _ _ _ _, below_drewN (Below.refl _ _) _⟩
  · rw [hdv] at hd
    have hl : Mo.divL xs ys = List.zipWith (· - ·) xs ys := Mo.divL_yes hdv
    have HL := Lib.hid hl
    have hc2 := fun n => zip_any 44 (· - ·) sub2_enters (fun x y W a b c d => sub2_any x y W a b c d) v u xs ys (w.drewN n) (h.drewN n) (k.drewN n) hle hx0 hy0 hn
    have HC := Lib.hid hc2
    have HD := Lib.hid hd; clear hd hc hc2 hl hdv hle hx0 hy0 hn h k
    go_enter Try.func23, Try.ntmps23
    go_wp2_with fail
    refine HD.out.mono ?_
    rintro e w1 ⟨rfl, n, rfl⟩
    go_wp2_with fail
    refine (HC.out n).mono ?_
    rintro e w1 ⟨r, rfl, ho, hb⟩
    go_wp2
    go_ret2
    exact ⟨r, rfl, by rw [HL.out]; exact ho, (below_drewN (Below.refl _ _) n).trans hb⟩

set_option maxHeartbeats 400000 in
theorem mul_any (v u : Value) (xs ys : List Int) (w : World) (h : Ints w v xs) (k : Ints w u ys) (hle : xs.length = ys.length) (hx0 : ∀ x ∈ xs, 0 ≤ x ∧ x ≤ 1000) (hy0 : ∀ x ∈ ys, 0 ≤ x ∧ x ≤ 1000) (hn : xs.length ≤ 6) :
    Calls Try.prog 20 #[v, u] w fun e w' => ∃ r, e = .returned (.tuple #[r, .int .i64 (Mo.mulE xs ys)]) ∧ OwnI w' w.heap.size r (Mo.mulL xs ys) ∧ Below w.heap.size w w' := by
  have hc := zip_any 43 (· + ·) add2_enters (fun x y W a b c d => add2_any x y W a b c d) v u xs ys w h k hle hx0 hy0 (by omega)
  have HC := Lib.hid hc; clear hc h k
  have hrt := Mo.rightB_sums xs ys hle (fun x hx => (hx0 x hx).1) (fun x hx => (hy0 x hx).1) hn
  have hls : (List.zipWith (· + ·) xs ys).length = xs.length := by simp [hle]
  have HLS := Lib.hid hls; clear hls
  obtain ⟨zz, hzz⟩ : ∃ zz, List.zipWith (· + ·) xs ys = zz := ⟨_, rfl⟩
  have hss : Mo.sums xs ys = zz := hzz
  rw [hss] at hrt
  rw [hzz] at HC HLS
  cases hm : Mo.mulB xs ys
  · rw [hm] at hrt
    have HR := Lib.hid hrt
    have HE := Lib.hid (Mo.mulE_no hm)
    have HL := Lib.hid (Mo.mulL_no hm)
    clear hrt hm hzz hss hle hx0 hy0
    go_enter Try.func20, Try.ntmps20
    go_wp2_with fail
    refine HC.out.mono ?_
    rintro e w1 ⟨r, rfl, ho, hb⟩
    have hI := ho.ints (by have := HLS.out; omega)
    have hI2 := hI
    obtain ⟨a, cap, rfl, c1, c2, c3⟩ := hI
    clear c3
    go_wp2_with fail
    refine (right_any _ _ _ _ hI2).mono ?_
    rw [HR.out]
    rintro e w2 ⟨rfl, rfl⟩
    go_wp2
    go_ret2
    exact ⟨_, by rw [HE.out]; rfl, by rw [HL.out]; exact World.ownsRow_nil _ _ _ _, hb⟩
  · rw [hm] at hrt
    have HR := Lib.hid hrt
    have HE := Lib.hid (Mo.mulE_yes hm)
    have hl : Mo.mulL xs ys = zz := by rw [Mo.mulL_yes hm]; exact hss
    have HL := Lib.hid hl
    clear hrt hm hzz hss hle hx0 hy0 hl
    go_enter Try.func20, Try.ntmps20
    go_wp2_with fail
    refine HC.out.mono ?_
    rintro e w1 ⟨r, rfl, ho, hb⟩
    have hI := ho.ints (by have := HLS.out; omega)
    have hI2 := hI
    obtain ⟨a, cap, rfl, c1, c2, c3⟩ := hI
    clear c3
    go_wp2_with fail
    refine (right_any _ _ _ _ hI2).mono ?_
    rw [HR.out]
    rintro e w2 ⟨rfl, rfl⟩
    go_wp2
    go_ret2
    exact ⟨_, by rw [HE.out]; rfl, by rw [HL.out]; exact ho, hb⟩


end Go.Proofs.Ytaidopbndlhpgaa
