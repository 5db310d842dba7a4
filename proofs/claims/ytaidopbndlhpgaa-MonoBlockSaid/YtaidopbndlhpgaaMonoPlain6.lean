/-
  Plain facts on exponent lists, sixth part: the least multiple, the greatest divisor. No program in sight.
-/
import Derived.Test.YtaidopbndlhpgaaMonoPlain5
namespace Go.Proofs.Ytaidopbndlhpgaa.Mo

theorem dvd_cons (x y : Int) (a b : List Int) : dvd (x :: a) (y :: b) = (decide (x ≤ y) && dvd a b) := by
  unfold dvd
  simp only [List.zipWith_cons_cons, List.all_cons]
  congr 1
  rw [decide_eq_decide]; omega

theorem dvd_max_left : ∀ a b : List Int, a.length = b.length → dvd a (List.zipWith max a b) = true
  | [], _, _ => rfl
  | _ :: _, [], h => by simp at h
  | x :: a, y :: b, h => by
    rw [List.zipWith_cons_cons, dvd_cons, dvd_max_left a b (by simpa using h)]
    simp; omega

theorem dvd_max_right : ∀ a b : List Int, a.length = b.length → dvd b (List.zipWith max a b) = true
  | [], [], _ => rfl
  | [], _ :: _, h => by simp at h
  | _ :: _, [], h => by simp at h
  | x :: a, y :: b, h => by
    rw [List.zipWith_cons_cons, dvd_cons, dvd_max_right a b (by simpa using h)]
    simp; omega

theorem dvd_min_left : ∀ a b : List Int, a.length = b.length → dvd (List.zipWith min a b) a = true
  | [], _, _ => rfl
  | _ :: _, [], h => by simp at h
  | x :: a, y :: b, h => by
    rw [List.zipWith_cons_cons, dvd_cons, dvd_min_left a b (by simpa using h)]
    simp; omega

theorem dvd_min_right : ∀ a b : List Int, a.length = b.length → dvd (List.zipWith min a b) b = true
  | [], [], _ => rfl
  | [], _ :: _, h => by simp at h
  | _ :: _, [], h => by simp at h
  | x :: a, y :: b, h => by
    rw [List.zipWith_cons_cons, dvd_cons, dvd_min_right a b (by simpa using h)]
    simp; omega

theorem deg_max_min : ∀ a b : List Int, a.length = b.length → deg (List.zipWith max a b) + deg (List.zipWith min a b) = deg a + deg b
  | [], [], _ => rfl
  | [], _ :: _, h => by simp at h
  | _ :: _, [], h => by simp at h
  | x :: a, y :: b, h => by
    have ih := deg_max_min a b (by simpa using h)
    simp only [List.zipWith_cons_cons, deg]
    omega

theorem sums_sub : ∀ l a : List Int, l.length = a.length → sums (List.zipWith (· - ·) l a) a = l
  | [], [], _ => rfl
  | [], _ :: _, h => by simp at h
  | _ :: _, [], h => by simp at h
  | x :: l, y :: a, h => by
    have ih := sums_sub l a (by simpa using h)
    unfold sums at ih ⊢
    simp only [List.zipWith_cons_cons, ih]
    rw [show x - y + y = x by omega]

theorem dvd_iff_max : ∀ a b : List Int, a.length = b.length → decide (List.zipWith max a b = b) = dvd a b
  | [], [], _ => rfl
  | [], _ :: _, h => by simp at h
  | _ :: _, [], h => by simp at h
  | x :: a, y :: b, h => by
    rw [dvd_cons, ← dvd_iff_max a b (by simpa using h)]
    simp only [List.zipWith_cons_cons, List.cons.injEq]
    rw [Bool.eq_iff_iff]
    simp
    intro _
    omega

/-- The numbers of the difference, where the second one divides the first one. -/
theorem sub_bound : ∀ l a : List Int, l.length = a.length → dvd a l = true → (∀ x ∈ l, 0 ≤ x ∧ x ≤ 60) → (∀ x ∈ a, 0 ≤ x ∧ x ≤ 60) → ∀ x ∈ List.zipWith (· - ·) l a, 0 ≤ x ∧ x ≤ 60
  | [], _, _, _, _, _, x, hx => by simp at hx
  | _ :: _, [], h, _, _, _, _, _ => by simp at h
  | p :: l, q :: a, h, hd, hl, ha, x, hx => by
    rw [dvd_cons, Bool.and_eq_true] at hd
    simp only [List.zipWith_cons_cons, List.mem_cons] at hx
    rcases hx with rfl | hx
    · have h1 := hl p (by simp)
      have h2 := ha q (by simp)
      have h3 : q ≤ p := by simpa using hd.1
      omega
    · exact sub_bound l a (by simpa using h) hd.2 (fun z hz => hl z (by simp [hz])) (fun z hz => ha z (by simp [hz])) x hx

theorem max_bound {a b : List Int} (ha : ∀ x ∈ a, 0 ≤ x ∧ x ≤ 60) (hb : ∀ x ∈ b, 0 ≤ x ∧ x ≤ 60) : ∀ x ∈ List.zipWith max a b, 0 ≤ x ∧ x ≤ 60 := by
  intro x hx
  obtain ⟨p, hp, q, hq, e⟩ := mem_zipWith _ a b x hx
  have h1 := ha p hp
  have h2 := hb q hq
  omega

theorem min_bound {a b : List Int} (ha : ∀ x ∈ a, 0 ≤ x ∧ x ≤ 60) (hb : ∀ x ∈ b, 0 ≤ x ∧ x ≤ 60) : ∀ x ∈ List.zipWith min a b, 0 ≤ x ∧ x ≤ 60 := by
  intro x hx
  obtain ⟨p, hp, q, hq, e⟩ := mem_zipWith _ a b x hx
  have h1 := ha p hp
  have h2 := hb q hq
  omega

end Go.Proofs.Ytaidopbndlhpgaa.Mo
