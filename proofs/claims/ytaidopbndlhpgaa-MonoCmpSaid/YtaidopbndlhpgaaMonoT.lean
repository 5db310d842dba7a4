/-
  The law MonoCmp: its walk.
-/
import Derived.Test.YtaidopbndlhpgaaMonoR
namespace Go.Proofs.Ytaidopbndlhpgaa
open Go.RowKit

set_option maxRecDepth 100000 in
set_option maxHeartbeats 4000000 in
theorem lawCmp_any (kind c : Int) (v u : Value) (xs ys : List Int) (w : World) (h1 : Ints w v xs) (h2 : Ints w u ys) :
    Calls Try.prog 4 #[.agg #[.int .i64 kind, .int .i64 c], v, u] w fun e w' => e = .returned (.bool true) ∧ Below w.heap.size w w' := by
  have h10 := h1
  obtain ⟨a_1, cap_1, rfl, hcap_1, hmax_1, hc_1⟩ := h10
  clear hc_1
  cases hT : (Mo.rightB xs.length xs && Mo.rightB xs.length ys)
  · have HT := Lib.hid hT; clear hT
    go_enter Try.func4, Try.ntmps4
    go_wp2_with fail
    refine (awake_any _).mono ?_
    rintro e w1 ⟨rfl, hb⟩
    replace h1 := (h1.alloc _).below hb
    replace h2 := (h2.alloc _).below hb
    have hB : Below w.heap.size w w1 := ((Below.refl _ w).alloc (Nat.le_refl _) _).trans (hb.mono (by simp))
    have c0 : w1.cell? ⟨w.heap.size, 0, none⟩ = some (.int .i64 kind) := (hb.cell (p := ⟨w.heap.size, 0, none⟩) (by simp)).trans (by simp [go_sem])
    have c1 : w1.cell? ⟨w.heap.size, 1, none⟩ = some (.int .i64 c) := (hb.cell (p := ⟨w.heap.size, 1, none⟩) (by simp)).trans (by simp [go_sem])
    clear hb
    go_wp2_with fail
    refine (twoB _ u xs ys _ h1 h2).mono ?_
    rw [HT.out]
    rintro e w2 ⟨rfl, hb⟩
    replace h1 := h1.below hb
    replace h2 := h2.below hb
    replace hB := hB.trans (hb.mono hB.size)
    replace c0 := (hb.cell (p := ⟨w.heap.size, 0, none⟩) (World.block_lt_of_cell? _ _ c0)).trans c0
    replace c1 := (hb.cell (p := ⟨w.heap.size, 1, none⟩) (World.block_lt_of_cell? _ _ c1)).trans c1
    clear hb
    go_wp2
    go_ret
    exact ⟨rfl, hB⟩
  · have g := good_of hT
    have HT := Lib.hid hT; clear hT
    have G := Lib.hid g; clear g
    cases hO : Mo.orderB xs.length kind c
    · have HO := Lib.hid hO; clear hO
      go_enter Try.func4, Try.ntmps4
      go_wp2_with fail
      refine (awake_any _).mono ?_
      rintro e w1 ⟨rfl, hb⟩
      replace h1 := (h1.alloc _).below hb
      replace h2 := (h2.alloc _).below hb
      have hB : Below w.heap.size w w1 := ((Below.refl _ w).alloc (Nat.le_refl _) _).trans (hb.mono (by simp))
      have c0 : w1.cell? ⟨w.heap.size, 0, none⟩ = some (.int .i64 kind) := (hb.cell (p := ⟨w.heap.size, 0, none⟩) (by simp)).trans (by simp [go_sem])
      have c1 : w1.cell? ⟨w.heap.size, 1, none⟩ = some (.int .i64 c) := (hb.cell (p := ⟨w.heap.size, 1, none⟩) (by simp)).trans (by simp [go_sem])
      clear hb
      go_wp2_with fail
      refine (twoB _ u xs ys _ h1 h2).mono ?_
      rw [HT.out]
      rintro e w2 ⟨rfl, hb⟩
      replace h1 := h1.below hb
      replace h2 := h2.below hb
      replace hB := hB.trans (hb.mono hB.size)
      replace c0 := (hb.cell (p := ⟨w.heap.size, 0, none⟩) (World.block_lt_of_cell? _ _ c0)).trans c0
      replace c1 := (hb.cell (p := ⟨w.heap.size, 1, none⟩) (World.block_lt_of_cell? _ _ c1)).trans c1
      clear hb
      go_wp2_with fail
      refine (refOrder_any _ kind c _).mono ?_
      rw [HO.out]
      rintro e w3 ⟨rfl, hb⟩
      replace h1 := h1.below hb
      replace h2 := h2.below hb
      replace hB := hB.trans (hb.mono hB.size)
      replace c0 := (hb.cell (p := ⟨w.heap.size, 0, none⟩) (World.block_lt_of_cell? _ _ c0)).trans c0
      replace c1 := (hb.cell (p := ⟨w.heap.size, 1, none⟩) (World.block_lt_of_cell? _ _ c1)).trans c1
      clear hb
      go_wp2
      go_ret
      exact ⟨rfl, hB⟩
    · have HO := Lib.hid hO; clear hO
      go_enter Try.func4, Try.ntmps4
      go_wp2_with fail
      refine (awake_any _).mono ?_
      rintro e w1 ⟨rfl, hb⟩
      replace h1 := (h1.alloc _).below hb
      replace h2 := (h2.alloc _).below hb
      have hB : Below w.heap.size w w1 := ((Below.refl _ w).alloc (Nat.le_refl _) _).trans (hb.mono (by simp))
      have c0 : w1.cell? ⟨w.heap.size, 0, none⟩ = some (.int .i64 kind) := (hb.cell (p := ⟨w.heap.size, 0, none⟩) (by simp)).trans (by simp [go_sem])
      have c1 : w1.cell? ⟨w.heap.size, 1, none⟩ = some (.int .i64 c) := (hb.cell (p := ⟨w.heap.size, 1, none⟩) (by simp)).trans (by simp [go_sem])
      clear hb
      go_wp2_with fail
      refine (twoB _ u xs ys _ h1 h2).mono ?_
      rw [HT.out]
      rintro e w2 ⟨rfl, hb⟩
      replace h1 := h1.below hb
      replace h2 := h2.below hb
      replace hB := hB.trans (hb.mono hB.size)
      replace c0 := (hb.cell (p := ⟨w.heap.size, 0, none⟩) (World.block_lt_of_cell? _ _ c0)).trans c0
      replace c1 := (hb.cell (p := ⟨w.heap.size, 1, none⟩) (World.block_lt_of_cell? _ _ c1)).trans c1
      clear hb
      go_wp2_with fail
      refine (refOrder_any _ kind c _).mono ?_
      rw [HO.out]
      rintro e w3 ⟨rfl, hb⟩
      replace h1 := h1.below hb
      replace h2 := h2.below hb
      replace hB := hB.trans (hb.mono hB.size)
      replace c0 := (hb.cell (p := ⟨w.heap.size, 0, none⟩) (World.block_lt_of_cell? _ _ c0)).trans c0
      replace c1 := (hb.cell (p := ⟨w.heap.size, 1, none⟩) (World.block_lt_of_cell? _ _ c1)).trans c1
      clear hb
      have lt1 := World.block_lt_of_cell? _ _ c0
      go_wp2_with fail
      go_region_held3 (fun w' => w'.cell? ⟨w.heap.size, 0, none⟩ = some (.int .i64 kind) ∧ w'.cell? ⟨w.heap.size, 1, none⟩ = some (.int .i64 c))
        (first
          | exact ⟨c0, c1⟩
          | exact ⟨(hba.cell (p := ⟨w.heap.size, 0, none⟩) lt1).trans c0, (hba.cell (p := ⟨w.heap.size, 1, none⟩) lt1).trans c1⟩
          | exact ⟨(hbb.cell (p := ⟨w.heap.size, 0, none⟩) (Nat.lt_of_lt_of_le lt1 hba.size)).trans ((hba.cell (p := ⟨w.heap.size, 0, none⟩) lt1).trans c0), (hbb.cell (p := ⟨w.heap.size, 1, none⟩) (Nat.lt_of_lt_of_le lt1 hba.size)).trans ((hba.cell (p := ⟨w.heap.size, 1, none⟩) lt1).trans c1)⟩)
        (first
          | (go_at_call 16; refine (cmpB kind c _ _ xs ys _ h1.drew h2.drew G.out HO.out).mono ?_; rintro e wa ⟨rfl, hba⟩)
          | (go_at_call 17; refine (refCmpB kind c _ _ xs ys _ (h1.drew.below hba) (h2.drew.below hba) G.out HO.out).mono ?_; rintro e wb ⟨rfl, hbb⟩))
      all_goals go_wp2
      all_goals go_ret
      all_goals exact ⟨rfl, (hB.drew.trans (hba.mono hB.size)).trans (hbb.mono (Nat.le_trans hB.size hba.size))⟩

end Go.Proofs.Ytaidopbndlhpgaa
