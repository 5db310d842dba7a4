/-
  Plain facts on exponent lists, second part: no program in sight.
-/
import Derived.Test.YtaidopbndlhpgaaMonoPlain
namespace Go.Proofs.Ytaidopbndlhpgaa.Mo

/-- What has been put together after k rounds; the rest is 0. -/
def zipTo (f : Int → Int → Int) (a b : List Int) (k : Nat) : List Int := (List.zipWith f a b).take k ++ List.replicate (a.length - k) 0

theorem zipTo_length (f : Int → Int → Int) (a b : List Int) (k : Nat) (hk : k ≤ a.length) (hl : a.length = b.length) : (zipTo f a b k).length = a.length := by
  simp [zipTo]; omega

theorem zipTo_set (f : Int → Int → Int) (a b : List Int) (k : Nat) (ha : k < a.length) (hb : k < b.length) :
    zipTo f a b (k + 1) = (zipTo f a b k).set k (f (a.getD k 0) (b.getD k 0)) := by
  unfold zipTo
  have hz : k < (List.zipWith f a b).length := by simp; omega
  have hk : ((List.zipWith f a b).take k).length = k := by simp; omega
  rw [List.take_succ_eq_append_getElem hz, List.set_append_right _ _ (by omega), hk, Nat.sub_self, show a.length - k = (a.length - (k + 1)) + 1 by omega, List.replicate_succ]
  simp [List.getD, ha, hb]

theorem zipTo_all (f : Int → Int → Int) (a b : List Int) (k : Nat) (hk : a.length ≤ k) (hl : a.length = b.length) : zipTo f a b k = List.zipWith f a b := by
  unfold zipTo
  rw [List.take_of_length_le (by simp; omega), show a.length - k = 0 by omega]
  simp

/-- The product; the error's number; the exponents, or none. -/
def sums (a b : List Int) : List Int := List.zipWith (· + ·) a b
def mulB (a b : List Int) : Bool := (sums a b).all (fun x => decide (x ≤ 60))
def mulE (a b : List Int) : Int := if mulB a b then 0 else 2
def mulL (a b : List Int) : List Int := if mulB a b then sums a b else []
theorem mulE_no {a b : List Int} (h : mulB a b = false) : mulE a b = 2 := by unfold mulE; rw [h]; rfl
theorem mulL_no {a b : List Int} (h : mulB a b = false) : mulL a b = [] := by unfold mulL; rw [h]; rfl
theorem mulE_yes {a b : List Int} (h : mulB a b = true) : mulE a b = 0 := by unfold mulE; rw [h]; rfl
theorem mulL_yes {a b : List Int} (h : mulB a b = true) : mulL a b = sums a b := by unfold mulL; rw [h]; rfl

/-- Does the first one divide the second one? -/
def dvd (a b : List Int) : Bool := (List.zipWith (fun x y => y - x) a b).all (fun d => decide (0 ≤ d))

def divL (a b : List Int) : List Int := if dvd b a then List.zipWith (· - ·) a b else []
theorem divL_no {a b : List Int} (h : dvd b a = false) : divL a b = [] := by unfold divL; rw [h]; rfl
theorem divL_yes {a b : List Int} (h : dvd b a = true) : divL a b = List.zipWith (· - ·) a b := by unfold divL; rw [h]; rfl

theorem mem_zipWith (f : Int → Int → Int) : ∀ (a b : List Int) (z : Int), z ∈ List.zipWith f a b → ∃ x ∈ a, ∃ y ∈ b, z = f x y
  | [], _, z, h => by simp at h
  | _ :: _, [], z, h => by simp at h
  | x :: a, y :: b, z, h => by
    simp only [List.zipWith_cons_cons, List.mem_cons] at h
    rcases h with rfl | h
    · exact ⟨x, by simp, y, by simp, rfl⟩
    · obtain ⟨p, hp, q, hq, e⟩ := mem_zipWith f a b z h
      exact ⟨p, by simp [hp], q, by simp [hq], e⟩

theorem rightB_sums (a b : List Int) (hl : a.length = b.length) (ha : ∀ x ∈ a, 0 ≤ x) (hb : ∀ x ∈ b, 0 ≤ x) (hn : a.length ≤ 6) : rightB (sums a b).length (sums a b) = mulB a b := by
  have hlen : (sums a b).length = a.length := by simp [sums, hl]
  have h1 : (sums a b).all okE = (sums a b).all (fun x => decide (x ≤ 60)) := by
    rw [Bool.eq_iff_iff, List.all_eq_true, List.all_eq_true]
    constructor
    · intro h x hx
      have := (okE_iff x).1 (h x hx)
      simp; omega
    · intro h x hx
      have h2 := h x hx
      simp at h2
      obtain ⟨p, hp, q, hq, e⟩ := mem_zipWith _ a b x hx
      have := ha p hp
      have := hb q hq
      exact (okE_iff x).2 (by omega)
  unfold rightB mulB
  rw [h1, hlen]
  simp; omega

theorem zipWith_take_succ (f : Int → Int → Int) (a b : List Int) (k : Nat) (ha : k < a.length) (hb : k < b.length) :
    (List.zipWith f a b).take (k + 1) = (List.zipWith f a b).take k ++ [f (a.getD k 0) (b.getD k 0)] := by
  rw [List.take_succ_eq_append_getElem (by simp; omega)]
  simp [List.getD, ha, hb]

end Go.Proofs.Ytaidopbndlhpgaa.Mo
