/-
  Plain facts on exponent lists, fourth part: no program in sight.
-/
import Derived.Test.YtaidopbndlhpgaaMonoPlain3
namespace Go.Proofs.Ytaidopbndlhpgaa.Mo

theorem orderB_bounds {n kind c : Int} (h : orderB n kind c = true) : 0 ≤ c ∧ c ≤ n ∧ 0 ≤ kind ∧ kind ≤ 3 := by
  unfold orderB at h
  by_cases hk : kind = 3
  · rw [if_pos hk] at h
    simp at h
    omega
  · rw [if_neg hk] at h
    simp at h
    omega

end Go.Proofs.Ytaidopbndlhpgaa.Mo
