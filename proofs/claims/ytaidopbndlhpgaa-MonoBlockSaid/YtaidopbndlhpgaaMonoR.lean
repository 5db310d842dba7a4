/-
  Contracts in one form (the world behind: Below), for the laws' walks.
-/
import Derived.Test.YtaidopbndlhpgaaMonoQ
import Derived.Test.YtaidopbndlhpgaaMonoPlain4
namespace Go.Proofs.Ytaidopbndlhpgaa
open Go.RowKit

theorem rightB_len {n : Int} {xs : List Int} (h : Mo.rightB n xs = true) : (xs.length : Int) = n ∧ 0 ≤ n ∧ n ≤ 6 ∧ ∀ x ∈ xs, 0 ≤ x ∧ x ≤ 60 := by
  simp only [Mo.rightB, Bool.and_eq_true, decide_eq_true_eq, List.all_eq_true] at h
  exact ⟨h.1.2, h.1.1.1, h.1.1.2, fun x hx => (Mo.okE_iff x).1 (h.2 x hx)⟩

theorem b_eq {P : Program} {f : FuncId} {args : Array Value} {w : World} {v : Value} (h : Calls P f args w fun e w' => e = .returned v ∧ w = w') : Calls P f args w fun e w' => e = .returned v ∧ Below w.heap.size w w' :=
  h.mono fun _ _ ⟨he, hw⟩ => ⟨he, hw ▸ Below.refl _ _⟩

theorem b_dr {P : Program} {f : FuncId} {args : Array Value} {w : World} {v : Value} (h : Calls P f args w fun e w' => e = .returned v ∧ ∃ n, w' = w.drewN n) : Calls P f args w fun e w' => e = .returned v ∧ Below w.heap.size w w' :=
  h.mono fun _ _ ⟨he, n, hw⟩ => ⟨he, hw ▸ below_drewN (Below.refl _ _) n⟩

theorem b_own {P : Program} {f : FuncId} {args : Array Value} {w : World} {l : List Int} (hl : l.length ≤ 1000000) (h : Calls P f args w fun e w' => ∃ r, e = .returned r ∧ OwnI w' w.heap.size r l ∧ Below w.heap.size w w') :
    Calls P f args w fun e w' => ∃ r, e = .returned r ∧ Ints w' r l ∧ Below w.heap.size w w' :=
  h.mono fun _ _ ⟨r, he, ho, hb⟩ => ⟨r, he, ho.ints (by omega), hb⟩

theorem b_own2 {P : Program} {f : FuncId} {args : Array Value} {w : World} {l : List Int} {q : Value} (hl : l.length ≤ 1000000) (h : Calls P f args w fun e w' => ∃ r, e = .returned (.tuple #[r, q]) ∧ OwnI w' w.heap.size r l ∧ Below w.heap.size w w') :
    Calls P f args w fun e w' => ∃ r, e = .returned (.tuple #[r, q]) ∧ Ints w' r l ∧ Below w.heap.size w w' :=
  h.mono fun _ _ ⟨r, he, ho, hb⟩ => ⟨r, he, ho.ints (by omega), hb⟩

/-- Two monomials of one kind: what the contracts ask of them. -/
structure Good (xs ys : List Int) : Prop where
  len : xs.length = ys.length
  small : xs.length ≤ 6
  x0 : ∀ x ∈ xs, 0 ≤ x ∧ x ≤ 1000
  y0 : ∀ x ∈ ys, 0 ≤ x ∧ x ≤ 1000

theorem good_of {xs ys : List Int} (h : (Mo.rightB xs.length xs && Mo.rightB xs.length ys) = true) : Good xs ys := by
  rw [Bool.and_eq_true] at h
  have a := rightB_len h.1
  have b := rightB_len h.2
  exact ⟨by omega, by omega, fun x hx => by have := a.2.2.2 x hx; omega, fun x hx => by have := b.2.2.2 x hx; omega⟩

theorem Good.small' {xs ys : List Int} (g : Good xs ys) : xs.length ≤ 1000 := by have := g.small; omega
theorem Good.ylen {xs ys : List Int} (g : Good xs ys) : ys.length ≤ 1000 := by have := g.small; have := g.len; omega
theorem Good.symm {xs ys : List Int} (g : Good xs ys) : Good ys xs := ⟨g.len.symm, by have := g.small; have := g.len; omega, g.y0, g.x0⟩

theorem mulL_len (xs ys : List Int) : (Mo.mulL xs ys).length ≤ xs.length := by
  unfold Mo.mulL
  split
  · simp [Mo.sums]; omega
  · simp
theorem divL_len (xs ys : List Int) : (Mo.divL xs ys).length ≤ xs.length := by
  unfold Mo.divL
  split
  · simp; omega
  · simp

theorem twoB (v u : Value) (xs ys : List Int) (w : World) (h : Ints w v xs) (k : Ints w u ys) :
    Calls Try.prog 15 #[v, u] w fun e w' => e = .returned (.bool (Mo.rightB xs.length xs && Mo.rightB xs.length ys)) ∧ Below w.heap.size w w' := b_eq (two_any v u xs ys w h k)
theorem sameB (v u : Value) (xs ys : List Int) (w : World) (h : Ints w v xs) (k : Ints w u ys) :
    Calls Try.prog 18 #[v, u] w fun e w' => e = .returned (.bool (decide (xs = ys))) ∧ Below w.heap.size w w' := b_dr (same_any v u xs ys w h k)
theorem dividesB (v u : Value) (xs ys : List Int) (w : World) (h : Ints w v xs) (k : Ints w u ys) (hl : xs.length = ys.length) :
    Calls Try.prog 21 #[v, u] w fun e w' => e = .returned (.bool (Mo.dvd xs ys)) ∧ Below w.heap.size w w' := b_dr (divides_any v u xs ys w h k hl)
theorem refDividesB (v u : Value) (xs ys : List Int) (w : World) (h : Ints w v xs) (k : Ints w u ys) (hl : xs.length = ys.length) :
    Calls Try.prog 25 #[v, u] w fun e w' => e = .returned (.bool (Mo.dvd xs ys)) ∧ Below w.heap.size w w' := b_dr (refDivides_any v u xs ys w h k hl)
theorem degB (v : Value) (xs : List Int) (w : World) (h : Ints w v xs) (hl : ∀ x ∈ xs, 0 ≤ x ∧ x ≤ 1000) (hn : xs.length ≤ 1000) :
    Calls Try.prog 30 #[v] w fun e w' => e = .returned (.int .i64 (Mo.deg xs)) ∧ Below w.heap.size w w' := b_eq (deg_any v xs w h hl hn)
theorem refDegB (v : Value) (xs : List Int) (w : World) (h : Ints w v xs) (hl : ∀ x ∈ xs, 0 ≤ x ∧ x ≤ 1000) (hn : xs.length ≤ 1000) :
    Calls Try.prog 19 #[v] w fun e w' => e = .returned (.int .i64 (Mo.deg xs)) ∧ Below w.heap.size w w' := b_eq (refDeg_any v xs w h hl hn)
theorem mulB (v u : Value) (xs ys : List Int) (w : World) (h : Ints w v xs) (k : Ints w u ys) (g : Good xs ys) :
    Calls Try.prog 20 #[v, u] w fun e w' => ∃ r, e = .returned (.tuple #[r, .int .i64 (Mo.mulE xs ys)]) ∧ Ints w' r (Mo.mulL xs ys) ∧ Below w.heap.size w w' := b_own2 (by have := mulL_len xs ys; have := g.small; omega) (mul_any v u xs ys w h k g.len g.x0 g.y0 g.small)
theorem refMulB (v u : Value) (xs ys : List Int) (w : World) (h : Ints w v xs) (k : Ints w u ys) (g : Good xs ys) :
    Calls Try.prog 22 #[v, u] w fun e w' => ∃ r, e = .returned (.tuple #[r, .int .i64 (Mo.mulE xs ys)]) ∧ Ints w' r (Mo.mulL xs ys) ∧ Below w.heap.size w w' := b_own2 (by have := mulL_len xs ys; have := g.small; omega) (refMul_any v u xs ys w h k g.len g.x0 g.y0 g.small')
theorem divB (v u : Value) (xs ys : List Int) (w : World) (h : Ints w v xs) (k : Ints w u ys) (g : Good xs ys) :
    Calls Try.prog 23 #[v, u] w fun e w' => ∃ r, e = .returned (.tuple #[r, .bool (Mo.dvd ys xs)]) ∧ Ints w' r (Mo.divL xs ys) ∧ Below w.heap.size w w' := b_own2 (by have := divL_len xs ys; have := g.small; omega) (div_any v u xs ys w h k g.len g.x0 g.y0 g.small')
theorem refDivB (v u : Value) (xs ys : List Int) (w : World) (h : Ints w v xs) (k : Ints w u ys) (g : Good xs ys) :
    Calls Try.prog 24 #[v, u] w fun e w' => ∃ r, e = .returned (.tuple #[r, .bool (Mo.dvd ys xs)]) ∧ Ints w' r (Mo.divL xs ys) ∧ Below w.heap.size w w' := b_own2 (by have := divL_len xs ys; have := g.small; omega) (refDiv_any v u xs ys w h k g.len g.x0 g.y0 g.small')
theorem lcmB (v u : Value) (xs ys : List Int) (w : World) (h : Ints w v xs) (k : Ints w u ys) (g : Good xs ys) :
    Calls Try.prog 26 #[v, u] w fun e w' => ∃ r, e = .returned r ∧ Ints w' r (List.zipWith max xs ys) ∧ Below w.heap.size w w' := b_own (by have := g.small; simp; omega) (lcm_any v u xs ys w h k g.len g.x0 g.y0 g.small')
theorem refLcmB (v u : Value) (xs ys : List Int) (w : World) (h : Ints w v xs) (k : Ints w u ys) (g : Good xs ys) :
    Calls Try.prog 27 #[v, u] w fun e w' => ∃ r, e = .returned r ∧ Ints w' r (List.zipWith max xs ys) ∧ Below w.heap.size w w' := b_own (by have := g.small; simp; omega) (refLcm_any v u xs ys w h k g.len g.x0 g.y0 g.small')
theorem gcdB (v u : Value) (xs ys : List Int) (w : World) (h : Ints w v xs) (k : Ints w u ys) (g : Good xs ys) :
    Calls Try.prog 28 #[v, u] w fun e w' => ∃ r, e = .returned r ∧ Ints w' r (List.zipWith min xs ys) ∧ Below w.heap.size w w' := b_own (by have := g.small; simp; omega) (gcd_any v u xs ys w h k g.len g.x0 g.y0 g.small')
theorem refGcdB (v u : Value) (xs ys : List Int) (w : World) (h : Ints w v xs) (k : Ints w u ys) (g : Good xs ys) :
    Calls Try.prog 29 #[v, u] w fun e w' => ∃ r, e = .returned r ∧ Ints w' r (List.zipWith min xs ys) ∧ Below w.heap.size w w' := b_own (by have := g.small; simp; omega) (refGcd_any v u xs ys w h k g.len g.x0 g.y0 g.small')
theorem cmpB (kind c : Int) (v u : Value) (xs ys : List Int) (w : World) (h : Ints w v xs) (k : Ints w u ys) (g : Good xs ys) (ho : Mo.orderB xs.length kind c = true) :
    Calls Try.prog 16 #[.agg #[.int .i64 kind, .int .i64 c], v, u] w fun e w' => e = .returned (.int .i64 (Mo.cmpC kind c xs ys)) ∧ Below w.heap.size w w' := by
  have hb := Mo.orderB_bounds ho
  exact cmp_any kind c v u xs ys w h k g.len g.x0 g.y0 g.small' hb.1 hb.2.1 hb.2.2.1 hb.2.2.2
theorem refCmpB (kind c : Int) (v u : Value) (xs ys : List Int) (w : World) (h : Ints w v xs) (k : Ints w u ys) (g : Good xs ys) (ho : Mo.orderB xs.length kind c = true) :
    Calls Try.prog 17 #[.agg #[.int .i64 kind, .int .i64 c], v, u] w fun e w' => e = .returned (.int .i64 (Mo.cmpC kind c xs ys)) ∧ Below w.heap.size w w' := by
  have hb := Mo.orderB_bounds ho
  exact refCmp_any kind c v u xs ys w h k g.len g.x0 g.y0 g.small' hb.1 hb.2.1

end Go.Proofs.Ytaidopbndlhpgaa
