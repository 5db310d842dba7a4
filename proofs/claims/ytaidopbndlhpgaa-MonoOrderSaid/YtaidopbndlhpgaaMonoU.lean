/-
  The law MonoOrder: its walk.
-/
import Derived.Test.YtaidopbndlhpgaaMonoR
import Derived.Test.YtaidopbndlhpgaaMonoPlain5
namespace Go.Proofs.Ytaidopbndlhpgaa
open Go.RowKit

set_option maxRecDepth 100000 in
set_option maxHeartbeats 4000000 in
theorem lawOrder_any (kind c : Int) (v u t : Value) (xs ys zs : List Int) (w : World) (h1 : Ints w v xs) (h2 : Ints w u ys) (h3 : Ints w t zs) :
    Calls Try.prog 5 #[.agg #[.int .i64 kind, .int .i64 c], v, u, t] w fun e w' => e = .returned (.bool true) ∧ Below w.heap.size w w' := by
  have h10 := h1
  obtain ⟨a_1, cap_1, rfl, hcap_1, hmax_1, hc_1⟩ := h10
  clear hc_1
  cases hT : (Mo.rightB xs.length xs && Mo.rightB xs.length ys)
  · have HT := Lib.hid hT; clear hT
    go_enter Try.func5, Try.ntmps5
    go_wp2_with fail
    refine (awake_any _).mono ?_
    rintro e w1 ⟨rfl, hb⟩
    replace h1 := (h1.alloc _).below hb
    replace h2 := (h2.alloc _).below hb
    replace h3 := (h3.alloc _).below hb
    have hB : Below w.heap.size w w1 := ((Below.refl _ w).alloc (Nat.le_refl _) _).trans (hb.mono (by simp))
    have c0 : w1.cell? ⟨w.heap.size, 0, none⟩ = some (.int .i64 kind) := (hb.cell (p := ⟨w.heap.size, 0, none⟩) (by simp)).trans (by simp [go_sem])
    have c1 : w1.cell? ⟨w.heap.size, 1, none⟩ = some (.int .i64 c) := (hb.cell (p := ⟨w.heap.size, 1, none⟩) (by simp)).trans (by simp [go_sem])
    clear hb
    go_wp2_with fail
    refine (twoB _ u xs ys _ h1 h2).mono ?_
    rw [HT.out]
    rintro e w2 ⟨rfl, hb⟩
    replace h1 := h1.below hb
    replace h2 := h2.below hb
    replace h3 := h3.below hb
    replace hB := hB.trans (hb.mono hB.size)
    replace c0 := (hb.cell (p := ⟨w.heap.size, 0, none⟩) (World.block_lt_of_cell? _ _ c0)).trans c0
    replace c1 := (hb.cell (p := ⟨w.heap.size, 1, none⟩) (World.block_lt_of_cell? _ _ c1)).trans c1
    clear hb
    go_wp2
    go_ret
    exact ⟨rfl, hB⟩
  · have g := good_of hT
    have HT := Lib.hid hT; clear hT
    have G := Lib.hid g
    cases hS : (Mo.rightB xs.length xs && Mo.rightB xs.length zs)
    · have HS := Lib.hid hS; clear hS g
      go_enter Try.func5, Try.ntmps5
      go_wp2_with fail
      refine (awake_any _).mono ?_
      rintro e w1 ⟨rfl, hb⟩
      replace h1 := (h1.alloc _).below hb
      replace h2 := (h2.alloc _).below hb
      replace h3 := (h3.alloc _).below hb
      have hB : Below w.heap.size w w1 := ((Below.refl _ w).alloc (Nat.le_refl _) _).trans (hb.mono (by simp))
      have c0 : w1.cell? ⟨w.heap.size, 0, none⟩ = some (.int .i64 kind) := (hb.cell (p := ⟨w.heap.size, 0, none⟩) (by simp)).trans (by simp [go_sem])
      have c1 : w1.cell? ⟨w.heap.size, 1, none⟩ = some (.int .i64 c) := (hb.cell (p := ⟨w.heap.size, 1, none⟩) (by simp)).trans (by simp [go_sem])
      clear hb
      go_wp2_with fail
      refine (twoB _ u xs ys _ h1 h2).mono ?_
      rw [HT.out]
      rintro e w2 ⟨rfl, hb⟩
      replace h1 := h1.below hb
      replace h2 := h2.below hb
      replace h3 := h3.below hb
      replace hB := hB.trans (hb.mono hB.size)
      replace c0 := (hb.cell (p := ⟨w.heap.size, 0, none⟩) (World.block_lt_of_cell? _ _ c0)).trans c0
      replace c1 := (hb.cell (p := ⟨w.heap.size, 1, none⟩) (World.block_lt_of_cell? _ _ c1)).trans c1
      clear hb
      go_wp2_with fail
      refine (twoB _ t xs zs _ h1 h3).mono ?_
      rw [HS.out]
      rintro e w3 ⟨rfl, hb⟩
      replace h1 := h1.below hb
      replace h2 := h2.below hb
      replace h3 := h3.below hb
      replace hB := hB.trans (hb.mono hB.size)
      replace c0 := (hb.cell (p := ⟨w.heap.size, 0, none⟩) (World.block_lt_of_cell? _ _ c0)).trans c0
      replace c1 := (hb.cell (p := ⟨w.heap.size, 1, none⟩) (World.block_lt_of_cell? _ _ c1)).trans c1
      clear hb
      go_wp2
      go_ret
      exact ⟨rfl, hB⟩
    · have g2 := good_of hS
      have HS := Lib.hid hS; clear hS
      have G2 := Lib.hid g2
      have g3 : Good ys zs := ⟨by rw [← g.len]; exact g2.len, by rw [← g.len]; exact g.small, g.y0, g2.y0⟩
      have G3 := Lib.hid g3
      cases hO : Mo.orderB xs.length kind c
      · have HO := Lib.hid hO; clear hO g g2 g3
        go_enter Try.func5, Try.ntmps5
        go_wp2_with fail
        refine (awake_any _).mono ?_
        rintro e w1 ⟨rfl, hb⟩
        replace h1 := (h1.alloc _).below hb
        replace h2 := (h2.alloc _).below hb
        replace h3 := (h3.alloc _).below hb
        have hB : Below w.heap.size w w1 := ((Below.refl _ w).alloc (Nat.le_refl _) _).trans (hb.mono (by simp))
        have c0 : w1.cell? ⟨w.heap.size, 0, none⟩ = some (.int .i64 kind) := (hb.cell (p := ⟨w.heap.size, 0, none⟩) (by simp)).trans (by simp [go_sem])
        have c1 : w1.cell? ⟨w.heap.size, 1, none⟩ = some (.int .i64 c) := (hb.cell (p := ⟨w.heap.size, 1, none⟩) (by simp)).trans (by simp [go_sem])
        clear hb
        go_wp2_with fail
        refine (twoB _ u xs ys _ h1 h2).mono ?_
        rw [HT.out]
        rintro e w2 ⟨rfl, hb⟩
        replace h1 := h1.below hb
        replace h2 := h2.below hb
        replace h3 := h3.below hb
        replace hB := hB.trans (hb.mono hB.size)
        replace c0 := (hb.cell (p := ⟨w.heap.size, 0, none⟩) (World.block_lt_of_cell? _ _ c0)).trans c0
        replace c1 := (hb.cell (p := ⟨w.heap.size, 1, none⟩) (World.block_lt_of_cell? _ _ c1)).trans c1
        clear hb
        go_wp2_with fail
        refine (twoB _ t xs zs _ h1 h3).mono ?_
        rw [HS.out]
        rintro e w3 ⟨rfl, hb⟩
        replace h1 := h1.below hb
        replace h2 := h2.below hb
        replace h3 := h3.below hb
        replace hB := hB.trans (hb.mono hB.size)
        replace c0 := (hb.cell (p := ⟨w.heap.size, 0, none⟩) (World.block_lt_of_cell? _ _ c0)).trans c0
        replace c1 := (hb.cell (p := ⟨w.heap.size, 1, none⟩) (World.block_lt_of_cell? _ _ c1)).trans c1
        clear hb
        go_wp2_with fail
        refine (refOrder_any _ kind c _).mono ?_
        rw [HO.out]
        rintro e w4 ⟨rfl, hb⟩
        replace h1 := h1.below hb
        replace h2 := h2.below hb
        replace h3 := h3.below hb
        replace hB := hB.trans (hb.mono hB.size)
        replace c0 := (hb.cell (p := ⟨w.heap.size, 0, none⟩) (World.block_lt_of_cell? _ _ c0)).trans c0
        replace c1 := (hb.cell (p := ⟨w.heap.size, 1, none⟩) (World.block_lt_of_cell? _ _ c1)).trans c1
        clear hb
        go_wp2
        go_ret
        exact ⟨rfl, hB⟩
      · have hO2 : Mo.orderB ys.length kind c = true := by rw [← g.len]; exact hO
        have ok := Mo.cmpC_ok kind c
        have anti : Mo.cmpC kind c ys xs = - Mo.cmpC kind c xs ys := ok.anti ys xs g.len.symm
        have eq0 : decide (xs = ys) = (Mo.cmpC kind c xs ys == 0) := by
          have := ok.eq0 xs ys g.len
          rw [Bool.eq_iff_iff]; simp [this]
        have rx := ok.rng xs ys
        have ry := ok.rng ys zs
        have rz := ok.rng xs zs
        have tr := ok.trans xs ys zs g.len g3.len
        have tr2 := ok.trans zs ys xs g3.len.symm g.len.symm
        have an2 := ok.anti ys zs g3.len
        have an3 := ok.anti xs zs g2.len
        rw [ok.anti zs xs g2.len.symm, ok.anti zs ys g3.len.symm, anti] at tr2
        have zer := Mo.cmpC_zero kind c xs (fun x hx => (g.x0 x hx).1)
        have gz : Good xs (List.replicate xs.length 0) := ⟨by simp, g.small, g.x0, fun x hx => by have := List.eq_of_mem_replicate hx; omega⟩
        have GZ := Lib.hid gz
        obtain ⟨x, hx⟩ : ∃ x, Mo.cmpC kind c xs ys = x := ⟨_, rfl⟩
        obtain ⟨y, hy⟩ : ∃ y, Mo.cmpC kind c ys zs = y := ⟨_, rfl⟩
        obtain ⟨z, hz⟩ : ∃ z, Mo.cmpC kind c xs zs = z := ⟨_, rfl⟩
        obtain ⟨s, hs⟩ : ∃ s, Mo.cmpC kind c xs (List.replicate xs.length 0) = s := ⟨_, rfl⟩
        rw [hx] at anti eq0 rx tr tr2
        rw [hy] at ry tr tr2
        rw [hz] at rz tr tr2
        rw [hs] at zer
        have HX := Lib.hid hx
        have HY := Lib.hid hy
        have HZ := Lib.hid hz
        have HSS := Lib.hid hs
        have HA := Lib.hid anti
        have HE := Lib.hid eq0
        have HTR := Lib.hid tr
        have HTR2 := Lib.hid tr2
        have HO := Lib.hid hO
        have HO2 := Lib.hid hO2
        have hsm : xs.length ≤ 6 := g.small
        clear hO hO2 g g2 g3 gz ok anti eq0 tr tr2 an2 an3 hx hy hz hs
        go_enter Try.func5, Try.ntmps5
        go_wp2_with fail
        refine (awake_any _).mono ?_
        rintro e w1 ⟨rfl, hb⟩
        replace h1 := (h1.alloc _).below hb
        replace h2 := (h2.alloc _).below hb
        replace h3 := (h3.alloc _).below hb
        have hB : Below w.heap.size w w1 := ((Below.refl _ w).alloc (Nat.le_refl _) _).trans (hb.mono (by simp))
        have c0 : w1.cell? ⟨w.heap.size, 0, none⟩ = some (.int .i64 kind) := (hb.cell (p := ⟨w.heap.size, 0, none⟩) (by simp)).trans (by simp [go_sem])
        have c1 : w1.cell? ⟨w.heap.size, 1, none⟩ = some (.int .i64 c) := (hb.cell (p := ⟨w.heap.size, 1, none⟩) (by simp)).trans (by simp [go_sem])
        clear hb
        go_wp2_with fail
        refine (twoB _ u xs ys _ h1 h2).mono ?_
        rw [HT.out]
        rintro e w2 ⟨rfl, hb⟩
        replace h1 := h1.below hb
        replace h2 := h2.below hb
        replace h3 := h3.below hb
        replace hB := hB.trans (hb.mono hB.size)
        replace c0 := (hb.cell (p := ⟨w.heap.size, 0, none⟩) (World.block_lt_of_cell? _ _ c0)).trans c0
        replace c1 := (hb.cell (p := ⟨w.heap.size, 1, none⟩) (World.block_lt_of_cell? _ _ c1)).trans c1
        clear hb
        go_wp2_with fail
        refine (twoB _ t xs zs _ h1 h3).mono ?_
        rw [HS.out]
        rintro e w3 ⟨rfl, hb⟩
        replace h1 := h1.below hb
        replace h2 := h2.below hb
        replace h3 := h3.below hb
        replace hB := hB.trans (hb.mono hB.size)
        replace c0 := (hb.cell (p := ⟨w.heap.size, 0, none⟩) (World.block_lt_of_cell? _ _ c0)).trans c0
        replace c1 := (hb.cell (p := ⟨w.heap.size, 1, none⟩) (World.block_lt_of_cell? _ _ c1)).trans c1
        clear hb
        go_wp2_with fail
        refine (refOrder_any _ kind c _).mono ?_
        rw [HO.out]
        rintro e w4 ⟨rfl, hb⟩
        replace h1 := h1.below hb
        replace h2 := h2.below hb
        replace h3 := h3.below hb
        replace hB := hB.trans (hb.mono hB.size)
        replace c0 := (hb.cell (p := ⟨w.heap.size, 0, none⟩) (World.block_lt_of_cell? _ _ c0)).trans c0
        replace c1 := (hb.cell (p := ⟨w.heap.size, 1, none⟩) (World.block_lt_of_cell? _ _ c1)).trans c1
        clear hb
        go_wp2_with fail
        refine (cmpB kind c _ u xs ys _ h1 h2 G.out HO.out).mono ?_
        rw [HX.out]
        rintro e w5 ⟨rfl, hb⟩
        replace h1 := h1.below hb
        replace h2 := h2.below hb
        replace h3 := h3.below hb
        replace hB := hB.trans (hb.mono hB.size)
        replace c0 := (hb.cell (p := ⟨w.heap.size, 0, none⟩) (World.block_lt_of_cell? _ _ c0)).trans c0
        replace c1 := (hb.cell (p := ⟨w.heap.size, 1, none⟩) (World.block_lt_of_cell? _ _ c1)).trans c1
        clear hb
        go_wp2_with fail
        refine (cmpB kind c u t ys zs _ h2 h3 G3.out HO2.out).mono ?_
        rw [HY.out]
        rintro e w6 ⟨rfl, hb⟩
        replace h1 := h1.below hb
        replace h2 := h2.below hb
        replace h3 := h3.below hb
        replace hB := hB.trans (hb.mono hB.size)
        replace c0 := (hb.cell (p := ⟨w.heap.size, 0, none⟩) (World.block_lt_of_cell? _ _ c0)).trans c0
        replace c1 := (hb.cell (p := ⟨w.heap.size, 1, none⟩) (World.block_lt_of_cell? _ _ c1)).trans c1
        clear hb
        go_wp2_with fail
        refine (cmpB kind c _ t xs zs _ h1 h3 G2.out HO.out).mono ?_
        rw [HZ.out]
        rintro e w7 ⟨rfl, hb⟩
        replace h1 := h1.below hb
        replace h2 := h2.below hb
        replace h3 := h3.below hb
        replace hB := hB.trans (hb.mono hB.size)
        replace c0 := (hb.cell (p := ⟨w.heap.size, 0, none⟩) (World.block_lt_of_cell? _ _ c0)).trans c0
        replace c1 := (hb.cell (p := ⟨w.heap.size, 1, none⟩) (World.block_lt_of_cell? _ _ c1)).trans c1
        clear hb
        obtain ⟨i0, hi, hz0, hz1, hz2⟩ := info_parts info_int
        go_wp2_with (at_make; refine wpList_make_full _ rfl _ _ 22 rfl w.heap.size 3 i0 (.int .i64 0) 1 Try.underlying22 hi hz0 hz1 .i64 .i64 _ _ xs.length rfl rfl rfl rfl (by rw [hz2]; omega) (by unfold maxLen; omega) hB.size ?_; intro wm hown hgrow; have hb : Below w7.heap.size w7 wm := (Below.refl _ _).grown hgrow (Nat.le_refl _) (fun k e => by cases e); replace c0 := (hb.cell (p := ⟨w.heap.size, 0, none⟩) (World.block_lt_of_cell? _ _ c0)).trans c0; replace c1 := (hb.cell (p := ⟨w.heap.size, 1, none⟩) (World.block_lt_of_cell? _ _ c1)).trans c1)
        rw [Nat.mul_one, show (Value.int IntKind.i64 0).cells = #[Value.int .i64 0] from rfl, toList_madeCells_one] at hown
        have hzz : List.replicate xs.length (Value.int .i64 0) = (List.replicate xs.length 0).map (Value.int .i64) := by simp
        rw [hzz] at hown
        have h4 : Ints wm (.slice (some ⟨w7.heap.size, 0, none⟩) xs.length xs.length) (List.replicate xs.length 0) := OwnI.ints (base := w.heap.size) (by unfold OwnI; rw [List.length_replicate]; exact hown) (by simp; omega)
        clear hown hgrow hzz hi hz0 hz1 hz2
        replace h1 := h1.below hb
        replace h2 := h2.below hb
        replace h3 := h3.below hb
        replace hB := hB.trans (hb.mono hB.size)
        clear hb
        refine (cmpB kind c u _ ys xs _ h2 h1 G.out.symm HO2.out).mono ?_
        rw [HA.out]
        rintro e w8 ⟨rfl, hb⟩
        replace h1 := h1.below hb
        replace h2 := h2.below hb
        replace h3 := h3.below hb
        replace h4 := h4.below hb
        replace hB := hB.trans (hb.mono hB.size)
        replace c0 := (hb.cell (p := ⟨w.heap.size, 0, none⟩) (World.block_lt_of_cell? _ _ c0)).trans c0
        replace c1 := (hb.cell (p := ⟨w.heap.size, 1, none⟩) (World.block_lt_of_cell? _ _ c1)).trans c1
        clear hb
        go_wp2_with fail
        refine (sameB _ u xs ys _ h1 h2).mono ?_
        rw [HE.out]
        rintro e w9 ⟨rfl, hb⟩
        replace h1 := h1.below hb
        replace h2 := h2.below hb
        replace h3 := h3.below hb
        replace h4 := h4.below hb
        replace hB := hB.trans (hb.mono hB.size)
        replace c0 := (hb.cell (p := ⟨w.heap.size, 0, none⟩) (World.block_lt_of_cell? _ _ c0)).trans c0
        replace c1 := (hb.cell (p := ⟨w.heap.size, 1, none⟩) (World.block_lt_of_cell? _ _ c1)).trans c1
        clear hb
        go_wp2_with fail
        refine (cmpB kind c _ _ xs _ _ h1 h4 GZ.out HO.out).mono ?_
        rw [HSS.out]
        rintro e w10 ⟨rfl, hb⟩
        replace h1 := h1.below hb
        replace h2 := h2.below hb
        replace h3 := h3.below hb
        replace h4 := h4.below hb
        replace hB := hB.trans (hb.mono hB.size)
        replace c0 := (hb.cell (p := ⟨w.heap.size, 0, none⟩) (World.block_lt_of_cell? _ _ c0)).trans c0
        replace c1 := (hb.cell (p := ⟨w.heap.size, 1, none⟩) (World.block_lt_of_cell? _ _ c1)).trans c1
        clear hb
        have htr := HTR.out
        have htr2 := HTR2.out
        have hx3 : x = -1 ∨ x = 0 ∨ x = 1 := by omega
        have hy3 : y = -1 ∨ y = 0 ∨ y = 1 := by omega
        clear h1 h2 h3 h4 c0 c1 HT G HS G2 G3 GZ HX HY HZ HSS HA HE HTR HTR2 HO HO2 rx ry
        rcases hx3 with rfl | rfl | rfl <;> rcases hy3 with rfl | rfl | rfl
        all_goals (try have q1 : 0 ≤ z := by omega)
        all_goals (try have q2 : z ≤ 0 := by omega)
        all_goals clear htr htr2 rz
        all_goals go_wp2
        all_goals go_ret
        all_goals exact ⟨rfl, hB⟩

end Go.Proofs.Ytaidopbndlhpgaa
