/-
  Plain facts on exponent lists, seventh part: blocks. No program in sight.
-/
import Derived.Test.YtaidopbndlhpgaaMonoPlain6
namespace Go.Proofs.Ytaidopbndlhpgaa.Mo

/-- None of the first k. -/
def pad (k : Nat) (a : List Int) : List Int := List.replicate k 0 ++ a.drop k

theorem pad_length (k : Nat) (a : List Int) (h : k ≤ a.length) : (pad k a).length = a.length := by simp [pad]; omega
theorem pad_take (k : Nat) (a : List Int) : (pad k a).take k = List.replicate k 0 := by
  unfold pad
  rw [List.take_append_of_le_length (by simp)]
  simp
theorem pad_drop (k : Nat) (a : List Int) : (pad k a).drop k = a.drop k := by
  unfold pad
  rw [List.drop_append_of_le_length (by simp)]
  simp
theorem pad_mem (k : Nat) (a : List Int) (B : Int) (hB : 0 ≤ B) (h : ∀ x ∈ a, 0 ≤ x ∧ x ≤ B) : ∀ x ∈ pad k a, 0 ≤ x ∧ x ≤ B := by
  intro x hx
  unfold pad at hx
  rcases List.mem_append.1 hx with hx | hx
  · have := List.eq_of_mem_replicate hx; omega
  · exact h x (List.mem_of_mem_drop hx)

theorem cmpC_3 (c : Int) (a b : List Int) : cmpC 3 c a b = blk grevC c.toNat a b := by simp [cmpC, blk]
theorem cmpC_2 (c : Int) (a b : List Int) : cmpC 2 c a b = grevC a b := by simp [cmpC]

theorem block_greater (k : Nat) (a b : List Int) (h : 0 < deg (b.take k)) : cmpC 3 k b (pad k a) = 1 := by
  rw [cmpC_3, Int.toNat_natCast]
  unfold blk
  rw [pad_take]
  have : grevC (b.take k) (List.replicate k 0) = 1 := by
    unfold grevC
    rw [deg_zero, if_neg (by omega), Int.sub_zero, sgn_pos h]
  rw [this, if_neg (by omega)]

theorem lexC_append : ∀ a b c : List Int, a.length = b.length → lexC (a ++ c) (b ++ c) = lexC a b
  | [], [], c, _ => lexC_refl c
  | [], _ :: _, _, h => by simp at h
  | _ :: _, [], _, h => by simp at h
  | x :: a, y :: b, c, h => by
    rw [List.cons_append, List.cons_append, lexC_cons, lexC_cons, lexC_append a b c (by simpa using h)]

theorem deg_pad (k : Nat) (a : List Int) : deg (pad k a) = deg (a.drop k) := by
  unfold pad
  rw [deg_append, deg_zero]; omega

theorem grevC_pad (k : Nat) (a b : List Int) (h : a.length = b.length) : grevC (pad k a) (pad k b) = grevC (a.drop k) (b.drop k) := by
  unfold grevC
  rw [deg_pad, deg_pad]
  unfold pad
  rw [List.reverse_append, List.reverse_append, lexC_append _ _ _ (by simp [h])]

theorem block_grev (k : Nat) (a b : List Int) (h : a.length = b.length) : cmpC 3 k (pad k a) (pad k b) = cmpC 2 0 (pad k a) (pad k b) := by
  rw [cmpC_3, cmpC_2, Int.toNat_natCast, grevC_pad k a b h]
  unfold blk
  rw [pad_take, pad_take, pad_drop, pad_drop, (grevC_ok.eq0 _ _ rfl).2 rfl, if_pos rfl]

end Go.Proofs.Ytaidopbndlhpgaa.Mo
