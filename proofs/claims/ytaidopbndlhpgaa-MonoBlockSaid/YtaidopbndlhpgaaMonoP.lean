/-
  The laws' walks, first part: what may be.
-/
import Derived.Test.YtaidopbndlhpgaaMonoO
namespace Go.Proofs.Ytaidopbndlhpgaa
open Go.RowKit

set_option maxRecDepth 100000 in
set_option maxHeartbeats 4000000 in
theorem lawRight_any (n : Int) (v : Value) (kind c : Int) (xs : List Int) (w : World) (h : Ints w v xs) :
    Calls Try.prog 3 #[.int .i64 n, v, .agg #[.int .i64 kind, .int .i64 c]] w fun e w' => e = .returned (.bool true) ∧ Below w.heap.size w w' := by
  have h0 := h
  obtain ⟨a, cap, rfl, hcap, hmax, hc⟩ := h
  clear hc
  go_enter Try.func3, Try.ntmps3
  go_wp2_with fail
  refine (awake_any _).mono ?_
  rintro e w1 ⟨rfl, hb1⟩
  have hI1 : Ints w1 (.slice a xs.length cap) xs := (h0.alloc _).below hb1
  have hB1 : Below w.heap.size w w1 := ((Below.refl _ w).alloc (Nat.le_refl _) _).trans (hb1.mono (by simp))
  have c0 : w1.cell? ⟨w.heap.size, 0, none⟩ = some (.int .i64 kind) := (hb1.cell (p := ⟨w.heap.size, 0, none⟩) (by simp)).trans (by simp [go_sem])
  have c1 : w1.cell? ⟨w.heap.size, 1, none⟩ = some (.int .i64 c) := (hb1.cell (p := ⟨w.heap.size, 1, none⟩) (by simp)).trans (by simp [go_sem])
  clear hb1 h0
  by_cases hl : (100 : Int) < xs.length
  · go_wp2
    go_ret
    exact ⟨rfl, hB1⟩
  · have lt1 := World.block_lt_of_cell? w1 _ c0
    go_wp2_with fail
    go_region_held3 (fun w' => w'.cell? ⟨w.heap.size, 0, none⟩ = some (.int .i64 kind) ∧ w'.cell? ⟨w.heap.size, 1, none⟩ = some (.int .i64 c))
      (first
        | exact ⟨c0, c1⟩
        | exact ⟨(hb2.cell (p := ⟨w.heap.size, 0, none⟩) lt1).trans c0, (hb2.cell (p := ⟨w.heap.size, 1, none⟩) lt1).trans c1⟩
        | exact ⟨(hb3.cell (p := ⟨w.heap.size, 0, none⟩) (Nat.lt_of_lt_of_le lt1 hb2.size)).trans ((hb2.cell (p := ⟨w.heap.size, 0, none⟩) lt1).trans c0), (hb3.cell (p := ⟨w.heap.size, 1, none⟩) (Nat.lt_of_lt_of_le lt1 hb2.size)).trans ((hb2.cell (p := ⟨w.heap.size, 1, none⟩) lt1).trans c1)⟩)
      (first
        | (go_at_call 11; refine (right_any _ _ _ _ hI1.drew).mono ?_; rintro e w' ⟨rfl, rfl⟩)
        | (go_at_call 12; refine (refRight_any _ _ _ _ hI1.drew).mono ?_; rintro e w' ⟨rfl, rfl⟩)
        | (go_at_call 13; refine (order_any _ _ _ _).mono ?_; rintro e w2 ⟨rfl, hb2⟩)
        | (go_at_call 14; refine (refOrder_any _ _ _ _).mono ?_; rintro e w3 ⟨rfl, hb3⟩))
    go_wp2
    go_ret
    have hB2 : Below w.heap.size w w2 := hB1.drew.trans (hb2.mono hB1.size)
    exact ⟨rfl, hB2.trans (hb3.mono hB2.size)⟩

end Go.Proofs.Ytaidopbndlhpgaa
