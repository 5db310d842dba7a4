/-
  Plain facts on exponent lists: no program in sight.
-/
namespace Go.Proofs.Ytaidopbndlhpgaa.Mo

/-- The sign of a number. -/
def sgn (x : Int) : Int := if x < 0 then -1 else if 0 < x then 1 else 0

/-- By the first place where two lists differ; a list that ends first is the lesser one. -/
def lexC : List Int → List Int → Int
  | [], [] => 0
  | [], _ :: _ => -1
  | _ :: _, [] => 1
  | x :: a, y :: b => if x = y then lexC a b else sgn (x - y)

def deg : List Int → Int
  | [] => 0
  | x :: a => x + deg a

def grevC (a b : List Int) : Int := if deg a = deg b then lexC b.reverse a.reverse else sgn (deg a - deg b)

def grlexC (a b : List Int) : Int := if deg a = deg b then lexC a b else sgn (deg a - deg b)

/-- Which monomial is the greater one: 'kind' 0 Lex, 1 GrLex, 2 GrevLex, else Block at 'cut'. -/
def cmpC (kind cut : Int) (a b : List Int) : Int :=
  if kind = 0 then lexC a b
  else if kind = 1 then grlexC a b
  else if kind = 2 then grevC a b
  else if grevC (a.take cut.toNat) (b.take cut.toNat) = 0 then grevC (a.drop cut.toNat) (b.drop cut.toNat) else grevC (a.take cut.toNat) (b.take cut.toNat)

/-- Exponents that may be. -/
def okE (x : Int) : Bool := decide (0 ≤ x) && decide (x ≤ 60)

def rightB (n : Int) (e : List Int) : Bool := decide (0 ≤ n) && decide (n ≤ 6) && decide ((e.length : Int) = n) && e.all okE

def orderB (n kind cut : Int) : Bool :=
  decide (0 ≤ n) && decide (n ≤ 6) && (if kind = 3 then decide (0 ≤ cut) && decide (cut ≤ n) else decide (0 ≤ kind) && decide (kind ≤ 2) && decide (cut = 0))

theorem all_take_succ (p : Int → Bool) (l : List Int) (k : Nat) (h : k < l.length) : (l.take (k + 1)).all p = ((l.take k).all p && p (l.getD k 0)) := by
  rw [List.take_succ_eq_append_getElem h, List.all_append]
  simp [List.getD, h]

theorem all_of_take (p : Int → Bool) (l : List Int) (k : Nat) (h : (l.take k).all p = false) : l.all p = false := by
  rw [List.all_eq_false] at h ⊢
  obtain ⟨x, hx, hp⟩ := h
  exact ⟨x, List.mem_of_mem_take hx, hp⟩

theorem okE_iff (x : Int) : okE x = true ↔ 0 ≤ x ∧ x ≤ 60 := by simp [okE]
theorem okE_neg (x : Int) : okE x = false ↔ x < 0 ∨ 60 < x := by simp [okE]; omega

theorem sgn_neg {x : Int} (h : x < 0) : sgn x = -1 := by simp [sgn, h]
theorem sgn_pos {x : Int} (h : 0 < x) : sgn x = 1 := by unfold sgn; rw [if_neg (by omega), if_pos h]
theorem sgn_zero : sgn 0 = 0 := rfl

theorem sgn_ne {x y : Int} (h : ¬ x = y) : (sgn (x - y) != 0) = true := by
  by_cases h1 : x < y
  · rw [sgn_neg (by omega)]; rfl
  · rw [sgn_pos (by omega)]; rfl

theorem deg_append (a b : List Int) : deg (a ++ b) = deg a + deg b := by
  induction a with
  | nil => simp [deg]
  | cons x a ih => simp only [List.cons_append, deg, ih]; omega

theorem deg_take_succ (l : List Int) (k : Nat) (h : k < l.length) : deg (l.take (k + 1)) = deg (l.take k) + l.getD k 0 := by
  rw [List.take_succ_eq_append_getElem h, deg_append]
  simp [List.getD, h, deg]

/-- Numbers of a list between two bounds: their sum is. -/
theorem deg_bound (l : List Int) (B : Int) (hl : ∀ x ∈ l, 0 ≤ x ∧ x ≤ B) : 0 ≤ deg l ∧ deg l ≤ B * l.length := by
  induction l with
  | nil => simp [deg]
  | cons x l ih =>
    have h1 := hl x (by simp)
    have h2 := ih (fun y hy => hl y (by simp [hy]))
    have h3 : B * ((x :: l).length : Int) = B * (l.length : Int) + B := by
      rw [List.length_cons, Int.natCast_succ, Int.mul_add, Int.mul_one]
    simp only [deg]
    rw [h3]
    omega

theorem deg_take_bound (l : List Int) (B : Int) (hB : 0 ≤ B) (hl : ∀ x ∈ l, 0 ≤ x ∧ x ≤ B) (k : Nat) : 0 ≤ deg (l.take k) ∧ deg (l.take k) ≤ B * l.length := by
  have h := deg_bound (l.take k) B (fun x hx => hl x (List.mem_of_mem_take hx))
  have h2 : ((l.take k).length : Int) ≤ l.length := by simp; omega
  have h3 : B * ((l.take k).length : Int) ≤ B * l.length := Int.mul_le_mul_of_nonneg_left h2 hB
  omega

theorem getD_bound (l : List Int) (B : Int) (hl : ∀ x ∈ l, 0 ≤ x ∧ x ≤ B) (k : Nat) (h : k < l.length) : 0 ≤ l.getD k 0 ∧ l.getD k 0 ≤ B := by
  have : l.getD k 0 = l[k] := by simp [List.getD, h]
  rw [this]
  exact hl _ (List.getElem_mem h)

theorem lexC_refl (a : List Int) : lexC a a = 0 := by
  induction a with
  | nil => rfl
  | cons x a ih => simp [lexC, ih]

/-- The lists agree up to place k: what the rest says. -/
theorem lexC_drop (a b : List Int) (k : Nat) (ha : k < a.length) (hb : k < b.length) :
    lexC (a.drop k) (b.drop k) = if a.getD k 0 = b.getD k 0 then lexC (a.drop (k + 1)) (b.drop (k + 1)) else sgn (a.getD k 0 - b.getD k 0) := by
  rw [List.drop_eq_getElem_cons ha, List.drop_eq_getElem_cons hb]
  simp [lexC, List.getD, ha, hb]

theorem lexC_end (a b : List Int) (k : Nat) (ha : a.length ≤ k) : lexC (a.drop k) (b.drop k) = if k < b.length then -1 else 0 := by
  rw [List.drop_eq_nil_of_le ha]
  by_cases hb : k < b.length
  · rw [List.drop_eq_getElem_cons hb, if_pos hb]; rfl
  · rw [List.drop_eq_nil_of_le (by omega), if_neg hb]; rfl

theorem lexC_over (a b : List Int) (k : Nat) (ha : k < a.length) (hb : b.length ≤ k) : lexC (a.drop k) (b.drop k) = 1 := by
  rw [List.drop_eq_getElem_cons ha, List.drop_eq_nil_of_le hb]; rfl

theorem take_succ_rev (l : List Int) (k : Nat) (h : k < l.length) : (l.take (k + 1)).reverse = l.getD k 0 :: (l.take k).reverse := by
  rw [List.take_succ_eq_append_getElem h, List.reverse_append]
  simp [List.getD, h]

theorem lexC_rev_step (a b : List Int) (k : Nat) (ha : k < a.length) (hb : k < b.length) :
    lexC (a.take (k + 1)).reverse (b.take (k + 1)).reverse = if a.getD k 0 = b.getD k 0 then lexC (a.take k).reverse (b.take k).reverse else sgn (a.getD k 0 - b.getD k 0) := by
  rw [take_succ_rev a k ha, take_succ_rev b k hb]
  rfl

/-- cmp.Or: the first one that isn't 0. -/
def orL : List Int → Int
  | [] => 0
  | x :: l => if x = 0 then orL l else x

theorem orL_drop (l : List Int) (k : Nat) (h : k < l.length) : orL (l.drop k) = if l.getD k 0 = 0 then orL (l.drop (k + 1)) else l.getD k 0 := by
  rw [List.drop_eq_getElem_cons h]
  simp [orL, List.getD, h]

theorem orL_two (x y : Int) : orL [x, y] = if x = 0 then y else x := by
  by_cases hy : y = 0 <;> simp [orL, hy]

theorem sgn_eq_zero {x : Int} : sgn x = 0 ↔ x = 0 := by
  unfold sgn
  by_cases h1 : x < 0
  · simp [h1]; omega
  · by_cases h2 : 0 < x
    · simp [h1, h2]; omega
    · simp [h1, h2]; omega

theorem orL_grlex (a b : List Int) : orL [sgn (deg a - deg b), lexC a b] = grlexC a b := by
  rw [orL_two]
  unfold grlexC
  by_cases h : deg a = deg b
  · rw [if_pos h, if_pos (by rw [sgn_eq_zero]; omega)]
  · rw [if_neg h, if_neg (by rw [sgn_eq_zero]; omega)]

theorem lexC_rev_same (a b : List Int) (m : Nat) : ∀ n, m ≤ n → n ≤ a.length → n ≤ b.length → (∀ j, m ≤ j → j < n → a.getD j 0 = b.getD j 0) →
    lexC (a.take n).reverse (b.take n).reverse = lexC (a.take m).reverse (b.take m).reverse := by
  intro n
  induction n with
  | zero => intro h _ _ _; have e : m = 0 := by omega
            rw [e]
  | succ n ih =>
    intro h ha hb hs
    by_cases e : m = n + 1
    · rw [e]
    · rw [lexC_rev_step a b n (by omega) (by omega), if_pos (hs n (by omega) (by omega))]
      exact ih (by omega) (by omega) (by omega) (fun j h1 h2 => hs j h1 (by omega))

/-- The last place where they differ. -/
theorem lexC_rev_at (a b : List Int) (i : Nat) (hl : a.length = b.length) (hi : i < a.length) (hne : ¬ a.getD i 0 = b.getD i 0) (hs : ∀ j, i < j → j < a.length → a.getD j 0 = b.getD j 0) :
    lexC a.reverse b.reverse = sgn (a.getD i 0 - b.getD i 0) := by
  have h1 := lexC_rev_same a b (i + 1) a.length (by omega) (Nat.le_refl _) (by omega) (fun j h1 h2 => hs j (by omega) h2)
  rw [List.take_of_length_le (Nat.le_refl _), List.take_of_length_le (by omega), lexC_rev_step a b i hi (by omega), if_neg hne] at h1
  exact h1

theorem lexC_rev_all (a b : List Int) (hl : a.length = b.length) (hs : ∀ j, j < a.length → a.getD j 0 = b.getD j 0) : lexC a.reverse b.reverse = 0 := by
  have h1 := lexC_rev_same a b 0 a.length (by omega) (Nat.le_refl _) (by omega) (fun j h1 h2 => hs j h2)
  rw [List.take_of_length_le (Nat.le_refl _), List.take_of_length_le (by omega)] at h1
  rw [h1]; rfl

/-- The places n - 1, n - 2, ..: the first k of them. -/
def downs (n k : Nat) : List Nat := (List.range k).map (fun j => n - 1 - j)
theorem downs_succ (n k : Nat) : downs n (k + 1) = downs n k ++ [n - 1 - k] := by simp [downs, List.range_succ]
theorem downs_length (n k : Nat) : (downs n k).length = k := by simp [downs]

theorem deg_small (l : List Int) (hl : ∀ x ∈ l, 0 ≤ x ∧ x ≤ 1000) (hn : l.length ≤ 1000) : 0 ≤ deg l ∧ deg l ≤ 1000000 := by
  have h := deg_bound l 1000 hl
  omega

end Go.Proofs.Ytaidopbndlhpgaa.Mo
