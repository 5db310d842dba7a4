/-
  Plain facts on exponent lists, fifth part: comparisons are orders. No program in sight.
-/
import Derived.Test.YtaidopbndlhpgaaMonoPlain4
namespace Go.Proofs.Ytaidopbndlhpgaa.Mo

/-- What a comparison of lists of one length has. -/
structure Ok (f : List Int → List Int → Int) : Prop where
  anti : ∀ a b, a.length = b.length → f a b = - f b a
  eq0 : ∀ a b, a.length = b.length → (f a b = 0 ↔ a = b)
  rng : ∀ a b, -1 ≤ f a b ∧ f a b ≤ 1
  trans : ∀ a b c, a.length = b.length → b.length = c.length → 0 ≤ f a b → 0 ≤ f b c → 0 ≤ f a c
  add : ∀ a b c, a.length = b.length → b.length = c.length → f (sums a c) (sums b c) = f a b

theorem sgn_rng (x : Int) : -1 ≤ sgn x ∧ sgn x ≤ 1 := by
  unfold sgn
  split
  · omega
  · split <;> omega

theorem sgn_anti (x : Int) : sgn (-x) = - sgn x := by
  by_cases h : x < 0
  · rw [sgn_neg h, sgn_pos (by omega)]; rfl
  · by_cases h2 : 0 < x
    · rw [sgn_pos h2, sgn_neg (by omega)]
    · have : x = 0 := by omega
      rw [this]; rfl

theorem sgn_nonneg {x : Int} : 0 ≤ sgn x ↔ 0 ≤ x := by
  by_cases h : x < 0
  · rw [sgn_neg h]; omega
  · by_cases h2 : 0 < x
    · rw [sgn_pos h2]; omega
    · have : x = 0 := by omega
      rw [this, sgn_zero]

theorem lexC_cons (x y : Int) (a b : List Int) : lexC (x :: a) (y :: b) = if x = y then lexC a b else sgn (x - y) := rfl

theorem lexC_anti : ∀ a b : List Int, a.length = b.length → lexC a b = - lexC b a
  | [], [], _ => rfl
  | [], _ :: _, h => by simp at h
  | _ :: _, [], h => by simp at h
  | x :: a, y :: b, h => by
    rw [lexC_cons, lexC_cons]
    by_cases e : x = y
    · rw [if_pos e, if_pos e.symm]; exact lexC_anti a b (by simpa using h)
    · rw [if_neg e, if_neg (fun k => e k.symm), show x - y = -(y - x) by omega, sgn_anti]

theorem lexC_eq0 : ∀ a b : List Int, a.length = b.length → (lexC a b = 0 ↔ a = b)
  | [], [], _ => by simp [lexC]
  | [], _ :: _, h => by simp at h
  | _ :: _, [], h => by simp at h
  | x :: a, y :: b, h => by
    rw [lexC_cons]
    by_cases e : x = y
    · rw [if_pos e, lexC_eq0 a b (by simpa using h)]; simp [e]
    · rw [if_neg e, sgn_eq_zero]
      constructor
      · intro k; omega
      · intro k; simp at k; omega

theorem lexC_rng : ∀ a b : List Int, -1 ≤ lexC a b ∧ lexC a b ≤ 1
  | [], [] => by simp [lexC]
  | [], _ :: _ => by simp [lexC]
  | _ :: _, [] => by simp [lexC]
  | x :: a, y :: b => by
    rw [lexC_cons]
    by_cases e : x = y
    · rw [if_pos e]; exact lexC_rng a b
    · rw [if_neg e]; exact sgn_rng _

theorem lexC_trans : ∀ a b c : List Int, a.length = b.length → b.length = c.length → 0 ≤ lexC a b → 0 ≤ lexC b c → 0 ≤ lexC a c
  | [], [], [], _, _, _, _ => by simp [lexC]
  | [], _ :: _, _, h, _, _, _ => by simp at h
  | _ :: _, [], _, h, _, _, _ => by simp at h
  | _, [], _ :: _, _, h, _, _ => by simp at h
  | _, _ :: _, [], _, h, _, _ => by simp at h
  | x :: a, y :: b, z :: c, h1, h2, h3, h4 => by
    rw [lexC_cons] at h3 h4 ⊢
    by_cases e : x = y
    · rw [if_pos e] at h3
      by_cases e2 : y = z
      · rw [if_pos e2] at h4
        rw [if_pos (e.trans e2)]
        exact lexC_trans a b c (by simpa using h1) (by simpa using h2) h3 h4
      · rw [if_neg e2, sgn_nonneg] at h4
        rw [if_neg (by omega), sgn_nonneg]; omega
    · rw [if_neg e, sgn_nonneg] at h3
      by_cases e2 : y = z
      · rw [if_neg (by omega), sgn_nonneg]; omega
      · rw [if_neg e2, sgn_nonneg] at h4
        rw [if_neg (by omega), sgn_nonneg]; omega

theorem lexC_add : ∀ a b c : List Int, a.length = b.length → b.length = c.length → lexC (sums a c) (sums b c) = lexC a b
  | [], [], _, _, _ => by simp [sums, lexC]
  | [], _ :: _, _, h, _ => by simp at h
  | _ :: _, [], _, h, _ => by simp at h
  | _ :: _, _ :: _, [], _, h => by simp at h
  | x :: a, y :: b, z :: c, h1, h2 => by
    have ih := lexC_add a b c (by simpa using h1) (by simpa using h2)
    unfold sums at ih ⊢
    simp only [List.zipWith_cons_cons, lexC_cons]
    by_cases e : x = y
    · rw [if_pos e, if_pos (by omega)]; exact ih
    · rw [if_neg e, if_neg (by omega), show x + z - (y + z) = x - y by omega]

theorem lexC_ok : Ok lexC := ⟨lexC_anti, lexC_eq0, lexC_rng, lexC_trans, lexC_add⟩

theorem sums_length (a b : List Int) (h : a.length = b.length) : (sums a b).length = a.length := by simp [sums, h]

theorem sums_append : ∀ a b c d : List Int, a.length = c.length → sums (a ++ b) (c ++ d) = sums a c ++ sums b d
  | [], _, [], _, _ => by simp [sums]
  | [], _, _ :: _, _, h => by simp at h
  | _ :: _, _, [], _, h => by simp at h
  | x :: a, b, y :: c, d, h => by
    have := sums_append a b c d (by simpa using h)
    unfold sums at this ⊢
    simp [this]

theorem sums_reverse : ∀ a b : List Int, a.length = b.length → (sums a b).reverse = sums a.reverse b.reverse
  | [], [], _ => rfl
  | [], _ :: _, h => by simp at h
  | _ :: _, [], h => by simp at h
  | x :: a, y :: b, h => by
    have hl : a.length = b.length := by simpa using h
    rw [List.reverse_cons, List.reverse_cons, sums_append _ _ _ _ (by simp [hl]), ← sums_reverse a b hl]
    simp [sums]

theorem sums_comm (a b : List Int) : sums a b = sums b a := by
  unfold sums
  rw [List.zipWith_comm]
  congr 1
  funext x y
  omega

theorem deg_sums : ∀ a b : List Int, a.length = b.length → deg (sums a b) = deg a + deg b
  | [], [], _ => rfl
  | [], _ :: _, h => by simp at h
  | _ :: _, [], h => by simp at h
  | x :: a, y :: b, h => by
    have := deg_sums a b (by simpa using h)
    unfold sums at this ⊢
    simp only [List.zipWith_cons_cons, deg]
    omega

def revC (a b : List Int) : Int := lexC b.reverse a.reverse

theorem revC_ok : Ok revC where
  anti a b h := by unfold revC; exact lexC_anti _ _ (by simp [h])
  eq0 a b h := by
    unfold revC
    rw [lexC_eq0 _ _ (by simp [h])]
    constructor
    · intro k; exact (List.reverse_inj.1 k).symm
    · intro k; rw [k]
  rng a b := lexC_rng _ _
  trans a b c h1 h2 h3 h4 := by unfold revC at *; exact lexC_trans _ _ _ (by simp [h2]) (by simp [h1]) h4 h3
  add a b c h1 h2 := by
    unfold revC
    rw [sums_reverse b c h2, sums_reverse a c (by omega)]
    exact lexC_add _ _ _ (by simp [h1]) (by simp; omega)

/-- By degree first. -/
def byDeg (f : List Int → List Int → Int) (a b : List Int) : Int := if deg a = deg b then f a b else sgn (deg a - deg b)

theorem byDeg_ok {f : List Int → List Int → Int} (h : Ok f) : Ok (byDeg f) where
  anti a b hl := by
    unfold byDeg
    by_cases e : deg a = deg b
    · rw [if_pos e, if_pos e.symm]; exact h.anti a b hl
    · rw [if_neg e, if_neg (fun k => e k.symm), show deg a - deg b = -(deg b - deg a) by omega, sgn_anti]
  eq0 a b hl := by
    unfold byDeg
    by_cases e : deg a = deg b
    · rw [if_pos e]; exact h.eq0 a b hl
    · rw [if_neg e, sgn_eq_zero]
      constructor
      · intro k; omega
      · intro k; rw [k] at e; exact (e rfl).elim
  rng a b := by
    unfold byDeg
    by_cases e : deg a = deg b
    · rw [if_pos e]; exact h.rng a b
    · rw [if_neg e]; exact sgn_rng _
  trans a b c h1 h2 h3 h4 := by
    unfold byDeg at *
    by_cases e : deg a = deg b
    · rw [if_pos e] at h3
      by_cases e2 : deg b = deg c
      · rw [if_pos e2] at h4
        rw [if_pos (e.trans e2)]
        exact h.trans a b c h1 h2 h3 h4
      · rw [if_neg e2, sgn_nonneg] at h4
        rw [if_neg (by omega), sgn_nonneg]; omega
    · rw [if_neg e, sgn_nonneg] at h3
      by_cases e2 : deg b = deg c
      · rw [if_neg (by omega), sgn_nonneg]; omega
      · rw [if_neg e2, sgn_nonneg] at h4
        rw [if_neg (by omega), sgn_nonneg]; omega
  add a b c h1 h2 := by
    unfold byDeg
    rw [deg_sums a c (by omega), deg_sums b c h2]
    by_cases e : deg a = deg b
    · rw [if_pos e, if_pos (by omega)]; exact h.add a b c h1 h2
    · rw [if_neg e, if_neg (by omega), show deg a + deg c - (deg b + deg c) = deg a - deg b by omega]

theorem grevC_by (a b : List Int) : grevC a b = byDeg revC a b := rfl
theorem grlexC_by (a b : List Int) : grlexC a b = byDeg lexC a b := rfl
theorem grevC_ok : Ok grevC := byDeg_ok revC_ok
theorem grlexC_ok : Ok grlexC := byDeg_ok lexC_ok

/-- The first k ahead of the others. -/
def blk (f : List Int → List Int → Int) (k : Nat) (a b : List Int) : Int :=
  if f (a.take k) (b.take k) = 0 then f (a.drop k) (b.drop k) else f (a.take k) (b.take k)

theorem sums_take (a b : List Int) (k : Nat) : (sums a b).take k = sums (a.take k) (b.take k) := by unfold sums; rw [List.take_zipWith]
theorem sums_drop (a b : List Int) (k : Nat) : (sums a b).drop k = sums (a.drop k) (b.drop k) := by unfold sums; rw [List.drop_zipWith]

theorem blk_ok {f : List Int → List Int → Int} (h : Ok f) (k : Nat) : Ok (blk f k) where
  anti a b hl := by
    unfold blk
    have h1 := h.anti (a.take k) (b.take k) (by simp [hl])
    by_cases e : f (a.take k) (b.take k) = 0
    · rw [if_pos e, if_pos (by omega)]; exact h.anti _ _ (by simp [hl])
    · rw [if_neg e, if_neg (by omega)]; exact h1
  eq0 a b hl := by
    unfold blk
    have h1 := h.eq0 (a.take k) (b.take k) (by simp [hl])
    by_cases e : f (a.take k) (b.take k) = 0
    · rw [if_pos e, h.eq0 _ _ (by simp [hl])]
      constructor
      · intro d; rw [← List.take_append_drop k a, ← List.take_append_drop k b, h1.1 e, d]
      · intro d; rw [d]
    · rw [if_neg e]
      constructor
      · intro d; exact (e d).elim
      · intro d; exact h1.2 (by rw [d])
  rng a b := by unfold blk; split <;> exact h.rng _ _
  trans a b c h1 h2 h3 h4 := by
    unfold blk at *
    have ht := h.trans (a.take k) (b.take k) (c.take k) (by simp [h1]) (by simp [h2])
    have e1 := h.eq0 (a.take k) (b.take k) (by simp [h1])
    have e2 := h.eq0 (b.take k) (c.take k) (by simp [h2])
    by_cases p : f (a.take k) (b.take k) = 0
    · rw [if_pos p] at h3
      by_cases q : f (b.take k) (c.take k) = 0
      · rw [if_pos q] at h4
        have : f (a.take k) (c.take k) = 0 := by rw [e1.1 p]; exact q
        rw [if_pos this]
        exact h.trans _ _ _ (by simp [h1]) (by simp [h2]) h3 h4
      · rw [if_neg q] at h4
        have : f (a.take k) (c.take k) = f (b.take k) (c.take k) := by rw [e1.1 p]
        rw [this, if_neg q]; exact h4
    · rw [if_neg p] at h3
      by_cases q : f (b.take k) (c.take k) = 0
      · have : f (a.take k) (c.take k) = f (a.take k) (b.take k) := by rw [e2.1 q]
        rw [this, if_neg p]; exact h3
      · rw [if_neg q] at h4
        have hnn := ht h3 h4
        have hne : ¬ f (a.take k) (c.take k) = 0 := by
          intro z
          have e3 := (h.eq0 (a.take k) (c.take k) (by simp [h1, h2])).1 z
          have e4 := h.anti (b.take k) (c.take k) (by simp [h2])
          rw [← e3] at e4 h4 q
          omega
        rw [if_neg hne]; exact hnn
  add a b c h1 h2 := by
    unfold blk
    rw [sums_take, sums_take, sums_drop, sums_drop, h.add _ _ _ (by simp [h1]) (by simp [h2]), h.add _ _ _ (by simp [h1]) (by simp [h2])]

theorem cmpC_ok (kind c : Int) : Ok (cmpC kind c) := by
  by_cases k0 : kind = 0
  · have : cmpC kind c = lexC := by funext a b; simp [cmpC, k0]
    rw [this]; exact lexC_ok
  · by_cases k1 : kind = 1
    · have : cmpC kind c = grlexC := by funext a b; simp [cmpC, k1]
      rw [this]; exact grlexC_ok
    · by_cases k2 : kind = 2
      · have : cmpC kind c = grevC := by funext a b; simp [cmpC, k2]
        rw [this]; exact grevC_ok
      · have : cmpC kind c = blk grevC c.toNat := by funext a b; simp [cmpC, k0, k1, k2, blk]
        rw [this]; exact blk_ok grevC_ok _

/-! 1 is the least. -/

theorem deg_zero (n : Nat) : deg (List.replicate n 0) = 0 := by
  induction n with
  | zero => rfl
  | succ n ih => simp [List.replicate_succ, deg, ih]

theorem deg_nonneg : ∀ a : List Int, (∀ x ∈ a, 0 ≤ x) → 0 ≤ deg a
  | [], _ => by simp [deg]
  | x :: a, h => by
    have h1 := h x (by simp)
    have h2 := deg_nonneg a (fun y hy => h y (by simp [hy]))
    simp only [deg]; omega

theorem zero_of_deg : ∀ a : List Int, (∀ x ∈ a, 0 ≤ x) → deg a = 0 → a = List.replicate a.length 0
  | [], _, _ => rfl
  | x :: a, h, hd => by
    have h1 := h x (by simp)
    have h2 : ∀ y ∈ a, 0 ≤ y := fun y hy => h y (by simp [hy])
    have h3 : 0 ≤ deg a := (deg_nonneg a h2)
    simp only [deg] at hd
    have h4 := zero_of_deg a h2 (by omega)
    have h5 : x = 0 := by omega
    rw [List.length_cons, List.replicate_succ, ← h4, h5]

theorem byDeg_zero {f : List Int → List Int → Int} (h : Ok f) (a : List Int) (ha : ∀ x ∈ a, 0 ≤ x) : 0 ≤ byDeg f a (List.replicate a.length 0) := by
  unfold byDeg
  rw [deg_zero]
  by_cases e : deg a = 0
  · rw [if_pos e, (h.eq0 a _ (by simp)).2 (zero_of_deg a ha e)]
    exact Int.le_refl _
  · rw [if_neg e, sgn_nonneg]
    have := deg_nonneg a ha
    omega

theorem lexC_zero : ∀ a : List Int, (∀ x ∈ a, 0 ≤ x) → 0 ≤ lexC a (List.replicate a.length 0)
  | [], _ => by simp [lexC]
  | x :: a, h => by
    rw [List.length_cons, List.replicate_succ, lexC_cons]
    have h1 := h x (by simp)
    by_cases e : x = 0
    · rw [if_pos e]; exact lexC_zero a (fun y hy => h y (by simp [hy]))
    · rw [if_neg e, sgn_nonneg]; omega

theorem blk_zero (k : Nat) (a : List Int) (ha : ∀ x ∈ a, 0 ≤ x) : 0 ≤ blk grevC k a (List.replicate a.length 0) := by
  unfold blk
  have h1 := byDeg_zero revC_ok (a.take k) (fun x hx => ha x (List.mem_of_mem_take hx))
  have h2 := byDeg_zero revC_ok (a.drop k) (fun x hx => ha x (List.mem_of_mem_drop hx))
  rw [List.take_replicate, List.drop_replicate, ← List.length_take, ← List.length_drop]
  split
  · exact h2
  · exact h1

theorem cmpC_zero (kind c : Int) (a : List Int) (ha : ∀ x ∈ a, 0 ≤ x) : 0 ≤ cmpC kind c a (List.replicate a.length 0) := by
  unfold cmpC
  split
  · exact lexC_zero a ha
  · split
    · exact byDeg_zero lexC_ok a ha
    · split
      · exact byDeg_zero revC_ok a ha
      · exact blk_zero c.toNat a ha

/-- A multiple is never less. -/
theorem cmpC_multiple (kind c : Int) (a b : List Int) (h : a.length = b.length) (hb : ∀ x ∈ b, 0 ≤ x) : 0 ≤ cmpC kind c (sums a b) a := by
  have h1 := (cmpC_ok kind c).add b (List.replicate b.length 0) a (by simp) (by simp [h])
  have h2 : sums (List.replicate b.length 0) a = a := by
    unfold sums
    rw [← h]
    clear h1 h hb
    induction a with
    | nil => rfl
    | cons x a ih => simp [List.replicate_succ, ih]
  rw [h2, sums_comm b a] at h1
  rw [h1]
  exact cmpC_zero kind c b hb

end Go.Proofs.Ytaidopbndlhpgaa.Mo
