/-
  Plain facts on exponent lists, third part: no program in sight.
-/
import Derived.Test.YtaidopbndlhpgaaMonoPlain2
namespace Go.Proofs.Ytaidopbndlhpgaa.Mo

theorem orderB_n {n kind c : Int} (h : ¬ (0 ≤ n ∧ n ≤ 6)) : orderB n kind c = false := by
  unfold orderB
  by_cases h1 : 0 ≤ n
  · rw [decide_eq_true h1, decide_eq_false (show ¬ n ≤ 6 by omega)]; rfl
  · rw [decide_eq_false h1]; rfl

theorem orderB_3 {n : Int} (c : Int) (h : 0 ≤ n ∧ n ≤ 6) : orderB n 3 c = (decide (0 ≤ c) && decide (c ≤ n)) := by
  unfold orderB
  rw [decide_eq_true h.1, decide_eq_true h.2]; rfl

theorem orderB_k {n kind : Int} (c : Int) (h : 0 ≤ n ∧ n ≤ 6) (hk : ¬ kind = 3) : orderB n kind c = (decide (0 ≤ kind) && decide (kind ≤ 2) && decide (c = 0)) := by
  unfold orderB
  rw [decide_eq_true h.1, decide_eq_true h.2, if_neg hk]; rfl

theorem orderB_out {n kind c : Int} (hk : ¬ kind = 3) (h : ¬ (0 ≤ kind ∧ kind ≤ 2)) : orderB n kind c = false := by
  by_cases hn : 0 ≤ n ∧ n ≤ 6
  · rw [orderB_k c hn hk]
    by_cases h1 : 0 ≤ kind
    · rw [decide_eq_true h1, decide_eq_false (show ¬ kind ≤ 2 by omega)]; rfl
    · rw [decide_eq_false h1]; rfl
  · exact orderB_n hn

end Go.Proofs.Ytaidopbndlhpgaa.Mo
