/-
  The walks of the small functions on exponent lists, fifteenth part: the example that all laws look at.
-/
import Derived.Test.YtaidopbndlhpgaaMonoN
namespace Go.Proofs.Ytaidopbndlhpgaa
open Go.RowKit

theorem ints_new' (w : World) (B : Nat) (hB : B = w.heap.size) (l : List Int) (t : TypeId) (hl : (l.length : Int) ≤ 9223372036854775807) :
    Ints (w.alloc (.cells (l.map (Value.int .i64)).toArray t)) (.slice (some ⟨B, 0, none⟩) l.length l.length) l := by
  subst hB
  exact ints_new w l t hl

set_option maxRecDepth 100000 in
set_option maxHeartbeats 4000000 in
theorem awake_any (w : World) : Calls Try.prog 10 #[] w fun e w' => e = .returned (.bool true) ∧ Below w.heap.size w w' := by
  go_enter Try.func10, Try.ntmps10
  go_wp2_with fail
  refine (mul_any _ _ [1, 0, 2] [0, 3, 1] _ ((ints_new' _ _ (by simp) [1, 0, 2] _ (by simp)).alloc _) (ints_new' _ _ (by simp) [0, 3, 1] _ (by simp)) rfl (by simp) (by simp) (by simp)).mono ?_
  rw [show Mo.mulE [1, 0, 2] [0, 3, 1] = 0 by decide, show Mo.mulL [1, 0, 2] [0, 3, 1] = [1, 3, 3] by decide]
  rintro e w1 ⟨r1, rfl, ho1, hb1⟩
  have c0 : w1.cell? ⟨w.heap.size, 0, none⟩ = some (.int .i64 2) := (hb1.cell (p := ⟨w.heap.size, 0, none⟩) (by simp; omega)).trans (by simp [go_sem])
  have c1 : w1.cell? ⟨w.heap.size, 1, none⟩ = some (.int .i64 0) := (hb1.cell (p := ⟨w.heap.size, 1, none⟩) (by simp; omega)).trans (by simp [go_sem])
  have hB1 : Below w.heap.size w w1 := ((((Below.refl _ w).alloc (Nat.le_refl _) _).alloc (by simp) _).alloc (by simp; omega) _).trans (hb1.mono (by simp; omega))
  have hI1 := ho1.ints (by simp)
  clear hb1 ho1
  go_wp2_with fail
  refine (mul_any _ _ [60] [1] _ ((ints_new' _ _ (by simp) [60] _ (by simp)).alloc _) (ints_new' _ _ (by simp) [1] _ (by simp)) rfl (by simp) (by simp) (by simp)).mono ?_
  rw [show Mo.mulE [60] [1] = 2 by decide, show Mo.mulL [60] [1] = [] by decide]
  rintro e w2 ⟨r2, rfl, ho2, hb2⟩
  have hs2 : Below w1.heap.size w1 w2 := (((Below.refl _ w1).alloc (Nat.le_refl _) _).alloc (by simp) _).trans (hb2.mono (by simp; omega))
  have hB2 : Below w.heap.size w w2 := hB1.trans (hs2.mono hB1.size)
  have hI2 := hI1.below hs2
  have d0 : w2.cell? ⟨w.heap.size, 0, none⟩ = some (.int .i64 2) := (hs2.cell (p := ⟨w.heap.size, 0, none⟩) (World.block_lt_of_cell? w1 _ c0)).trans c0
  have d1 : w2.cell? ⟨w.heap.size, 1, none⟩ = some (.int .i64 0) := (hs2.cell (p := ⟨w.heap.size, 1, none⟩) (World.block_lt_of_cell? w1 _ c1)).trans c1
  clear hs2 hb2 ho2 hI1 c0 c1 hB1
  go_wp2_with fail
  refine (cmp_any 2 0 _ _ [1, 0, 1] [0, 2, 0] _ ((ints_new' _ _ (by simp) [1, 0, 1] _ (by simp)).alloc _) (ints_new' _ _ (by simp) [0, 2, 0] _ (by simp)) rfl (by simp) (by simp) (by simp) (by omega) (by simp) (by omega) (by omega)).mono ?_
  rw [show Mo.cmpC 2 0 [1, 0, 1] [0, 2, 0] = -1 by decide]
  rintro e w3 ⟨rfl, hb3⟩
  have hs3 : Below w2.heap.size w2 w3 := (((Below.refl _ w2).alloc (Nat.le_refl _) _).alloc (by simp) _).trans (hb3.mono (by simp; omega))
  have hB3 : Below w.heap.size w w3 := hB2.trans (hs3.mono hB2.size)
  have hI3 := hI2.below hs3
  have e0 : w3.cell? ⟨w.heap.size, 0, none⟩ = some (.int .i64 2) := (hs3.cell (p := ⟨w.heap.size, 0, none⟩) (World.block_lt_of_cell? w2 _ d0)).trans d0
  have e1 : w3.cell? ⟨w.heap.size, 1, none⟩ = some (.int .i64 0) := (hs3.cell (p := ⟨w.heap.size, 1, none⟩) (World.block_lt_of_cell? w2 _ d1)).trans d1
  have lt3 := World.block_lt_of_cell? w3 _ e0
  clear hs3 hb3 hI2 d0 d1 hB2
  go_wp2_with fail
  refine (same_any _ _ [1, 3, 3] [1, 3, 3] _ (hI3.alloc _) (ints_new' _ _ (by simp) [1, 3, 3] _ (by simp))).mono ?_
  rw [show decide (([1, 3, 3] : List Int) = [1, 3, 3]) = true by decide]
  rintro e w4 ⟨rfl, n, rfl⟩
  have hI4 : Ints ((w3.alloc (Obj.cells (List.map (Value.int IntKind.i64) [1, 3, 3]).toArray 3)).drewN n) r1 [1, 3, 3] := (hI3.alloc _).drewN n
  have f0 : ((w3.alloc (Obj.cells (List.map (Value.int IntKind.i64) [1, 3, 3]).toArray 3)).drewN n).cell? ⟨w.heap.size, 0, none⟩ = some (.int .i64 2) := (World.cell?_alloc_lt (w := w3) (o := _) (a := ⟨w.heap.size, 0, none⟩) lt3).trans e0
  have f1 : ((w3.alloc (Obj.cells (List.map (Value.int IntKind.i64) [1, 3, 3]).toArray 3)).drewN n).cell? ⟨w.heap.size, 1, none⟩ = some (.int .i64 0) := (World.cell?_alloc_lt (w := w3) (o := _) (a := ⟨w.heap.size, 1, none⟩) lt3).trans e1
  have hB4 : Below w.heap.size w ((w3.alloc (Obj.cells (List.map (Value.int IntKind.i64) [1, 3, 3]).toArray 3)).drewN n) := below_drewN (hB3.alloc hB3.size _) n
  generalize (w3.alloc (Obj.cells (List.map (Value.int IntKind.i64) [1, 3, 3]).toArray 3)).drewN n = w4 at *
  clear hI3 e0 e1 hB3 lt3
  go_wp2_with fail
  refine (order_any 3 2 0 _).mono ?_
  rw [show Mo.orderB 3 2 0 = true by decide]
  rintro e w5 ⟨rfl, hb5⟩
  have hB5 : Below w.heap.size w w5 := hB4.trans (hb5.mono hB4.size)
  have hI5 := hI4.below hb5
  clear hI4 f0 f1 hb5 hB4
  go_wp2_with fail
  refine (right_any 1 _ [60] _ (ints_new' _ _ (by simp) [60] _ (by simp))).mono ?_
  rw [show Mo.rightB 1 [60] = true by decide]
  rintro e w6 ⟨rfl, rfl⟩
  go_wp2_with fail
  refine (deg_any _ [1, 3, 3] _ (hI5.alloc _) (by simp) (by simp)).mono ?_
  rw [show Mo.deg [1, 3, 3] = 7 by decide]
  rintro e w6 ⟨rfl, rfl⟩
  go_wp2
  go_ret
  exact ⟨rfl, hB5.alloc hB5.size _⟩

end Go.Proofs.Ytaidopbndlhpgaa
