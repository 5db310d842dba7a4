/-
  The law MonoKeeps: its walk.
-/
import Derived.Test.YtaidopbndlhpgaaMonoR
import Derived.Test.YtaidopbndlhpgaaMonoPlain5
namespace Go.Proofs.Ytaidopbndlhpgaa
open Go.RowKit

theorem sums_bound {a b : List Int} (ha : ∀ x ∈ a, 0 ≤ x ∧ x ≤ 60) (hb : ∀ x ∈ b, 0 ≤ x ∧ x ≤ 60) : ∀ x ∈ Mo.sums a b, 0 ≤ x ∧ x ≤ 1000 := by
  intro x hx
  obtain ⟨p, hp, q, hq, e⟩ := Mo.mem_zipWith _ a b x hx
  have h1 := ha p hp
  have h2 := hb q hq
  omega

theorem dvd_sums : ∀ a b : List Int, a.length = b.length → (∀ x ∈ b, 0 ≤ x) → Mo.dvd a (Mo.sums a b) = true
  | [], _, _, _ => rfl
  | _ :: _, [], h, _ => by simp at h
  | x :: a, y :: b, h, hb => by
    have h1 := dvd_sums a b (by simpa using h) (fun z hz => hb z (by simp [hz]))
    have h2 := hb y (by simp)
    unfold Mo.dvd Mo.sums at h1 ⊢
    simp only [List.zipWith_cons_cons, List.all_cons, Bool.and_eq_true]
    exact ⟨by simp; omega, h1⟩

set_option maxRecDepth 100000 in
set_option maxHeartbeats 4000000 in
theorem lawKeeps_any (kind c : Int) (v u t : Value) (xs ys zs : List Int) (w : World) (h1 : Ints w v xs) (h2 : Ints w u ys) (h3 : Ints w t zs) :
    Calls Try.prog 7 #[.agg #[.int .i64 kind, .int .i64 c], v, u, t] w fun e w' => e = .returned (.bool true) ∧ Below w.heap.size w w' := by
  have h10 := h1
  obtain ⟨a_1, cap_1, rfl, hcap_1, hmax_1, hc_1⟩ := h10
  clear hc_1
  cases hT : (Mo.rightB xs.length xs && Mo.rightB xs.length ys)
  · have HT := Lib.hid hT; clear hT
    go_enter Try.func7, Try.ntmps7
    go_wp2_with fail
    refine (awake_any _).mono ?_
    rintro e w1 ⟨rfl, hb⟩
    replace h1 := (h1.alloc _).below hb
    replace h2 := (h2.alloc _).below hb
    replace h3 := (h3.alloc _).below hb
    have hB : Below w.heap.size w w1 := ((Below.refl _ w).alloc (Nat.le_refl _) _).trans (hb.mono (by simp))
    have c0 : w1.cell? ⟨w.heap.size, 0, none⟩ = some (.int .i64 kind) := (hb.cell (p := ⟨w.heap.size, 0, none⟩) (by simp)).trans (by simp [go_sem])
    have c1 : w1.cell? ⟨w.heap.size, 1, none⟩ = some (.int .i64 c) := (hb.cell (p := ⟨w.heap.size, 1, none⟩) (by simp)).trans (by simp [go_sem])
    clear hb
    go_wp2_with fail
    refine (twoB _ u xs ys _ h1 h2).mono ?_
    rw [HT.out]
    rintro e w2 ⟨rfl, hb⟩
    replace h1 := h1.below hb
    replace h2 := h2.below hb
    replace h3 := h3.below hb
    replace hB := hB.trans (hb.mono hB.size)
    replace c0 := (hb.cell (p := ⟨w.heap.size, 0, none⟩) (World.block_lt_of_cell? _ _ c0)).trans c0
    replace c1 := (hb.cell (p := ⟨w.heap.size, 1, none⟩) (World.block_lt_of_cell? _ _ c1)).trans c1
    clear hb
    go_wp2
    go_ret
    exact ⟨rfl, hB⟩
  · have g := good_of hT
    have HT := Lib.hid hT
    have G := Lib.hid g
    cases hS : (Mo.rightB xs.length xs && Mo.rightB xs.length zs)
    · have HS := Lib.hid hS; clear hS g hT
      go_enter Try.func7, Try.ntmps7
      go_wp2_with fail
      refine (awake_any _).mono ?_
      rintro e w1 ⟨rfl, hb⟩
      replace h1 := (h1.alloc _).below hb
      replace h2 := (h2.alloc _).below hb
      replace h3 := (h3.alloc _).below hb
      have hB : Below w.heap.size w w1 := ((Below.refl _ w).alloc (Nat.le_refl _) _).trans (hb.mono (by simp))
      have c0 : w1.cell? ⟨w.heap.size, 0, none⟩ = some (.int .i64 kind) := (hb.cell (p := ⟨w.heap.size, 0, none⟩) (by simp)).trans (by simp [go_sem])
      have c1 : w1.cell? ⟨w.heap.size, 1, none⟩ = some (.int .i64 c) := (hb.cell (p := ⟨w.heap.size, 1, none⟩) (by simp)).trans (by simp [go_sem])
      clear hb
      go_wp2_with fail
      refine (twoB _ u xs ys _ h1 h2).mono ?_
      rw [HT.out]
      rintro e w2 ⟨rfl, hb⟩
      replace h1 := h1.below hb
      replace h2 := h2.below hb
      replace h3 := h3.below hb
      replace hB := hB.trans (hb.mono hB.size)
      replace c0 := (hb.cell (p := ⟨w.heap.size, 0, none⟩) (World.block_lt_of_cell? _ _ c0)).trans c0
      replace c1 := (hb.cell (p := ⟨w.heap.size, 1, none⟩) (World.block_lt_of_cell? _ _ c1)).trans c1
      clear hb
      go_wp2_with fail
      refine (twoB _ t xs zs _ h1 h3).mono ?_
      rw [HS.out]
      rintro e w3 ⟨rfl, hb⟩
      replace h1 := h1.below hb
      replace h2 := h2.below hb
      replace h3 := h3.below hb
      replace hB := hB.trans (hb.mono hB.size)
      replace c0 := (hb.cell (p := ⟨w.heap.size, 0, none⟩) (World.block_lt_of_cell? _ _ c0)).trans c0
      replace c1 := (hb.cell (p := ⟨w.heap.size, 1, none⟩) (World.block_lt_of_cell? _ _ c1)).trans c1
      clear hb
      go_wp2
      go_ret
      exact ⟨rfl, hB⟩
    · have g2 := good_of hS
      have HS := Lib.hid hS
      have G2 := Lib.hid g2
      have g3 : Good ys zs := ⟨by rw [← g.len]; exact g2.len, by rw [← g.len]; exact g.small, g.y0, g2.y0⟩
      have G3 := Lib.hid g3
      cases hO : Mo.orderB xs.length kind c
      · have HO := Lib.hid hO; clear hO g g2 g3 hT hS
        go_enter Try.func7, Try.ntmps7
        go_wp2_with fail
        refine (awake_any _).mono ?_
        rintro e w1 ⟨rfl, hb⟩
        replace h1 := (h1.alloc _).below hb
        replace h2 := (h2.alloc _).below hb
        replace h3 := (h3.alloc _).below hb
        have hB : Below w.heap.size w w1 := ((Below.refl _ w).alloc (Nat.le_refl _) _).trans (hb.mono (by simp))
        have c0 : w1.cell? ⟨w.heap.size, 0, none⟩ = some (.int .i64 kind) := (hb.cell (p := ⟨w.heap.size, 0, none⟩) (by simp)).trans (by simp [go_sem])
        have c1 : w1.cell? ⟨w.heap.size, 1, none⟩ = some (.int .i64 c) := (hb.cell (p := ⟨w.heap.size, 1, none⟩) (by simp)).trans (by simp [go_sem])
        clear hb
        go_wp2_with fail
        refine (twoB _ u xs ys _ h1 h2).mono ?_
        rw [HT.out]
        rintro e w2 ⟨rfl, hb⟩
        replace h1 := h1.below hb
        replace h2 := h2.below hb
        replace h3 := h3.below hb
        replace hB := hB.trans (hb.mono hB.size)
        replace c0 := (hb.cell (p := ⟨w.heap.size, 0, none⟩) (World.block_lt_of_cell? _ _ c0)).trans c0
        replace c1 := (hb.cell (p := ⟨w.heap.size, 1, none⟩) (World.block_lt_of_cell? _ _ c1)).trans c1
        clear hb
        go_wp2_with fail
        refine (twoB _ t xs zs _ h1 h3).mono ?_
        rw [HS.out]
        rintro e w3 ⟨rfl, hb⟩
        replace h1 := h1.below hb
        replace h2 := h2.below hb
        replace h3 := h3.below hb
        replace hB := hB.trans (hb.mono hB.size)
        replace c0 := (hb.cell (p := ⟨w.heap.size, 0, none⟩) (World.block_lt_of_cell? _ _ c0)).trans c0
        replace c1 := (hb.cell (p := ⟨w.heap.size, 1, none⟩) (World.block_lt_of_cell? _ _ c1)).trans c1
        clear hb
        go_wp2_with fail
        refine (refOrder_any _ kind c _).mono ?_
        rw [HO.out]
        rintro e w4 ⟨rfl, hb⟩
        replace h1 := h1.below hb
        replace h2 := h2.below hb
        replace h3 := h3.below hb
        replace hB := hB.trans (hb.mono hB.size)
        replace c0 := (hb.cell (p := ⟨w.heap.size, 0, none⟩) (World.block_lt_of_cell? _ _ c0)).trans c0
        replace c1 := (hb.cell (p := ⟨w.heap.size, 1, none⟩) (World.block_lt_of_cell? _ _ c1)).trans c1
        clear hb
        go_wp2
        go_ret
        exact ⟨rfl, hB⟩
      · have rgt := hT
        have rgt2 := hS
        rw [Bool.and_eq_true] at rgt rgt2
        have bx := (rightB_len rgt.1).2.2.2
        have by' := (rightB_len rgt.2).2.2.2
        have bz := (rightB_len rgt2.2).2.2.2
        have HO := Lib.hid hO
        have lx : (Mo.sums xs zs).length = xs.length := Mo.sums_length _ _ g2.len
        have ly : (Mo.sums ys zs).length = xs.length := by rw [Mo.sums_length _ _ g3.len, g.len]
        have gs : Good (Mo.sums xs zs) (Mo.sums ys zs) := ⟨by rw [lx, ly], by rw [lx]; exact g.small, sums_bound bx bz, sums_bound by' bz⟩
        have gsx : Good (Mo.sums xs zs) xs := ⟨lx, by rw [lx]; exact g.small, gs.x0, g.x0⟩
        have hOs : Mo.orderB (Mo.sums xs zs).length kind c = true := by rw [lx]; exact hO
        have ok := Mo.cmpC_ok kind c
        have q1 := ok.add xs ys zs g.len g3.len
        have q2 := Mo.cmpC_multiple kind c xs zs g2.len (fun x hx => (bz x hx).1)
        have q3 := dvd_sums xs zs g2.len (fun x hx => (bz x hx).1)
        obtain ⟨s, hs⟩ : ∃ s, Mo.cmpC kind c (Mo.sums xs zs) xs = s := ⟨_, rfl⟩
        rw [hs] at q2
        have GS := Lib.hid gs
        have GSX := Lib.hid gsx
        have HOS := Lib.hid hOs
        have Q1 := Lib.hid q1
        have Q3 := Lib.hid q3
        have HSS := Lib.hid hs
        have hm1 : Mo.mulB xs zs = true → Mo.mulL xs zs = Mo.sums xs zs := Mo.mulL_yes
        have hm2 : Mo.mulB ys zs = true → Mo.mulL ys zs = Mo.sums ys zs := Mo.mulL_yes
        clear hT hS g g2 g3 gs gsx hO hOs ok q1 q3 hs rgt rgt2 bx by' bz lx ly
        cases hM : Mo.mulB xs zs
        · have E1 := Lib.hid (Mo.mulE_no hM)
          clear hM hm1
          cases hN : Mo.mulB ys zs
          · have E2 := Lib.hid (Mo.mulE_no hN)
            clear hN hm2
            go_enter Try.func7, Try.ntmps7
            go_wp2_with fail
            refine (awake_any _).mono ?_
            rintro e w1 ⟨rfl, hb⟩
            replace h1 := (h1.alloc _).below hb
            replace h2 := (h2.alloc _).below hb
            replace h3 := (h3.alloc _).below hb
            have hB : Below w.heap.size w w1 := ((Below.refl _ w).alloc (Nat.le_refl _) _).trans (hb.mono (by simp))
            have c0 : w1.cell? ⟨w.heap.size, 0, none⟩ = some (.int .i64 kind) := (hb.cell (p := ⟨w.heap.size, 0, none⟩) (by simp)).trans (by simp [go_sem])
            have c1 : w1.cell? ⟨w.heap.size, 1, none⟩ = some (.int .i64 c) := (hb.cell (p := ⟨w.heap.size, 1, none⟩) (by simp)).trans (by simp [go_sem])
            clear hb
            go_wp2_with fail
            refine (twoB _ u xs ys _ h1 h2).mono ?_
            rw [HT.out]
            rintro e w2 ⟨rfl, hb⟩
            replace h1 := h1.below hb
            replace h2 := h2.below hb
            replace h3 := h3.below hb
            replace hB := hB.trans (hb.mono hB.size)
            replace c0 := (hb.cell (p := ⟨w.heap.size, 0, none⟩) (World.block_lt_of_cell? _ _ c0)).trans c0
            replace c1 := (hb.cell (p := ⟨w.heap.size, 1, none⟩) (World.block_lt_of_cell? _ _ c1)).trans c1
            clear hb
            go_wp2_with fail
            refine (twoB _ t xs zs _ h1 h3).mono ?_
            rw [HS.out]
            rintro e w3 ⟨rfl, hb⟩
            replace h1 := h1.below hb
            replace h2 := h2.below hb
            replace h3 := h3.below hb
            replace hB := hB.trans (hb.mono hB.size)
            replace c0 := (hb.cell (p := ⟨w.heap.size, 0, none⟩) (World.block_lt_of_cell? _ _ c0)).trans c0
            replace c1 := (hb.cell (p := ⟨w.heap.size, 1, none⟩) (World.block_lt_of_cell? _ _ c1)).trans c1
            clear hb
            go_wp2_with fail
            refine (refOrder_any _ kind c _).mono ?_
            rw [HO.out]
            rintro e w4 ⟨rfl, hb⟩
            replace h1 := h1.below hb
            replace h2 := h2.below hb
            replace h3 := h3.below hb
            replace hB := hB.trans (hb.mono hB.size)
            replace c0 := (hb.cell (p := ⟨w.heap.size, 0, none⟩) (World.block_lt_of_cell? _ _ c0)).trans c0
            replace c1 := (hb.cell (p := ⟨w.heap.size, 1, none⟩) (World.block_lt_of_cell? _ _ c1)).trans c1
            clear hb
            go_wp2_with fail
            refine (mulB _ t xs zs _ h1 h3 G2.out).mono ?_
            rw [E1.out]
            rintro e w5 ⟨r_hx, rfl, hx, hb⟩
            replace h1 := h1.below hb
            replace h2 := h2.below hb
            replace h3 := h3.below hb
            replace hB := hB.trans (hb.mono hB.size)
            replace c0 := (hb.cell (p := ⟨w.heap.size, 0, none⟩) (World.block_lt_of_cell? _ _ c0)).trans c0
            replace c1 := (hb.cell (p := ⟨w.heap.size, 1, none⟩) (World.block_lt_of_cell? _ _ c1)).trans c1
            clear hb
            go_wp2_with fail
            refine (mulB u t ys zs _ h2 h3 G3.out).mono ?_
            rw [E2.out]
            rintro e w6 ⟨r_hy, rfl, hy, hb⟩
            replace h1 := h1.below hb
            replace h2 := h2.below hb
            replace h3 := h3.below hb
            replace hx := hx.below hb
            replace hB := hB.trans (hb.mono hB.size)
            replace c0 := (hb.cell (p := ⟨w.heap.size, 0, none⟩) (World.block_lt_of_cell? _ _ c0)).trans c0
            replace c1 := (hb.cell (p := ⟨w.heap.size, 1, none⟩) (World.block_lt_of_cell? _ _ c1)).trans c1
            clear hb
            go_wp2
            go_ret
            exact ⟨rfl, hB⟩
          · have E2 := Lib.hid (Mo.mulE_yes hN)
            have L2 := Lib.hid (hm2 hN)
            clear hN hm2
            go_enter Try.func7, Try.ntmps7
            go_wp2_with fail
            refine (awake_any _).mono ?_
            rintro e w1 ⟨rfl, hb⟩
            replace h1 := (h1.alloc _).below hb
            replace h2 := (h2.alloc _).below hb
            replace h3 := (h3.alloc _).below hb
            have hB : Below w.heap.size w w1 := ((Below.refl _ w).alloc (Nat.le_refl _) _).trans (hb.mono (by simp))
            have c0 : w1.cell? ⟨w.heap.size, 0, none⟩ = some (.int .i64 kind) := (hb.cell (p := ⟨w.heap.size, 0, none⟩) (by simp)).trans (by simp [go_sem])
            have c1 : w1.cell? ⟨w.heap.size, 1, none⟩ = some (.int .i64 c) := (hb.cell (p := ⟨w.heap.size, 1, none⟩) (by simp)).trans (by simp [go_sem])
            clear hb
            go_wp2_with fail
            refine (twoB _ u xs ys _ h1 h2).mono ?_
            rw [HT.out]
            rintro e w2 ⟨rfl, hb⟩
            replace h1 := h1.below hb
            replace h2 := h2.below hb
            replace h3 := h3.below hb
            replace hB := hB.trans (hb.mono hB.size)
            replace c0 := (hb.cell (p := ⟨w.heap.size, 0, none⟩) (World.block_lt_of_cell? _ _ c0)).trans c0
            replace c1 := (hb.cell (p := ⟨w.heap.size, 1, none⟩) (World.block_lt_of_cell? _ _ c1)).trans c1
            clear hb
            go_wp2_with fail
            refine (twoB _ t xs zs _ h1 h3).mono ?_
            rw [HS.out]
            rintro e w3 ⟨rfl, hb⟩
            replace h1 := h1.below hb
            replace h2 := h2.below hb
            replace h3 := h3.below hb
            replace hB := hB.trans (hb.mono hB.size)
            replace c0 := (hb.cell (p := ⟨w.heap.size, 0, none⟩) (World.block_lt_of_cell? _ _ c0)).trans c0
            replace c1 := (hb.cell (p := ⟨w.heap.size, 1, none⟩) (World.block_lt_of_cell? _ _ c1)).trans c1
            clear hb
            go_wp2_with fail
            refine (refOrder_any _ kind c _).mono ?_
            rw [HO.out]
            rintro e w4 ⟨rfl, hb⟩
            replace h1 := h1.below hb
            replace h2 := h2.below hb
            replace h3 := h3.below hb
            replace hB := hB.trans (hb.mono hB.size)
            replace c0 := (hb.cell (p := ⟨w.heap.size, 0, none⟩) (World.block_lt_of_cell? _ _ c0)).trans c0
            replace c1 := (hb.cell (p := ⟨w.heap.size, 1, none⟩) (World.block_lt_of_cell? _ _ c1)).trans c1
            clear hb
            go_wp2_with fail
            refine (mulB _ t xs zs _ h1 h3 G2.out).mono ?_
            rw [E1.out]
            rintro e w5 ⟨r_hx, rfl, hx, hb⟩
            replace h1 := h1.below hb
            replace h2 := h2.below hb
            replace h3 := h3.below hb
            replace hB := hB.trans (hb.mono hB.size)
            replace c0 := (hb.cell (p := ⟨w.heap.size, 0, none⟩) (World.block_lt_of_cell? _ _ c0)).trans c0
            replace c1 := (hb.cell (p := ⟨w.heap.size, 1, none⟩) (World.block_lt_of_cell? _ _ c1)).trans c1
            clear hb
            go_wp2_with fail
            refine (mulB u t ys zs _ h2 h3 G3.out).mono ?_
            rw [E2.out]
            rintro e w6 ⟨r_hy, rfl, hy, hb⟩
            replace h1 := h1.below hb
            replace h2 := h2.below hb
            replace h3 := h3.below hb
            replace hx := hx.below hb
            replace hB := hB.trans (hb.mono hB.size)
            replace c0 := (hb.cell (p := ⟨w.heap.size, 0, none⟩) (World.block_lt_of_cell? _ _ c0)).trans c0
            replace c1 := (hb.cell (p := ⟨w.heap.size, 1, none⟩) (World.block_lt_of_cell? _ _ c1)).trans c1
            clear hb
            go_wp2
            go_ret
            exact ⟨rfl, hB⟩
        · have E1 := Lib.hid (Mo.mulE_yes hM)
          have L1 := Lib.hid (hm1 hM)
          clear hM hm1
          cases hN : Mo.mulB ys zs
          · have E2 := Lib.hid (Mo.mulE_no hN)
            clear hN hm2
            go_enter Try.func7, Try.ntmps7
            go_wp2_with fail
            refine (awake_any _).mono ?_
            rintro e w1 ⟨rfl, hb⟩
            replace h1 := (h1.alloc _).below hb
            replace h2 := (h2.alloc _).below hb
            replace h3 := (h3.alloc _).below hb
            have hB : Below w.heap.size w w1 := ((Below.refl _ w).alloc (Nat.le_refl _) _).trans (hb.mono (by simp))
            have c0 : w1.cell? ⟨w.heap.size, 0, none⟩ = some (.int .i64 kind) := (hb.cell (p := ⟨w.heap.size, 0, none⟩) (by simp)).trans (by simp [go_sem])
            have c1 : w1.cell? ⟨w.heap.size, 1, none⟩ = some (.int .i64 c) := (hb.cell (p := ⟨w.heap.size, 1, none⟩) (by simp)).trans (by simp [go_sem])
            clear hb
            go_wp2_with fail
            refine (twoB _ u xs ys _ h1 h2).mono ?_
            rw [HT.out]
            rintro e w2 ⟨rfl, hb⟩
            replace h1 := h1.below hb
            replace h2 := h2.below hb
            replace h3 := h3.below hb
            replace hB := hB.trans (hb.mono hB.size)
            replace c0 := (hb.cell (p := ⟨w.heap.size, 0, none⟩) (World.block_lt_of_cell? _ _ c0)).trans c0
            replace c1 := (hb.cell (p := ⟨w.heap.size, 1, none⟩) (World.block_lt_of_cell? _ _ c1)).trans c1
            clear hb
            go_wp2_with fail
            refine (twoB _ t xs zs _ h1 h3).mono ?_
            rw [HS.out]
            rintro e w3 ⟨rfl, hb⟩
            replace h1 := h1.below hb
            replace h2 := h2.below hb
            replace h3 := h3.below hb
            replace hB := hB.trans (hb.mono hB.size)
            replace c0 := (hb.cell (p := ⟨w.heap.size, 0, none⟩) (World.block_lt_of_cell? _ _ c0)).trans c0
            replace c1 := (hb.cell (p := ⟨w.heap.size, 1, none⟩) (World.block_lt_of_cell? _ _ c1)).trans c1
            clear hb
            go_wp2_with fail
            refine (refOrder_any _ kind c _).mono ?_
            rw [HO.out]
            rintro e w4 ⟨rfl, hb⟩
            replace h1 := h1.below hb
            replace h2 := h2.below hb
            replace h3 := h3.below hb
            replace hB := hB.trans (hb.mono hB.size)
            replace c0 := (hb.cell (p := ⟨w.heap.size, 0, none⟩) (World.block_lt_of_cell? _ _ c0)).trans c0
            replace c1 := (hb.cell (p := ⟨w.heap.size, 1, none⟩) (World.block_lt_of_cell? _ _ c1)).trans c1
            clear hb
            go_wp2_with fail
            refine (mulB _ t xs zs _ h1 h3 G2.out).mono ?_
            rw [E1.out]
            rintro e w5 ⟨r_hx, rfl, hx, hb⟩
            replace h1 := h1.below hb
            replace h2 := h2.below hb
            replace h3 := h3.below hb
            replace hB := hB.trans (hb.mono hB.size)
            replace c0 := (hb.cell (p := ⟨w.heap.size, 0, none⟩) (World.block_lt_of_cell? _ _ c0)).trans c0
            replace c1 := (hb.cell (p := ⟨w.heap.size, 1, none⟩) (World.block_lt_of_cell? _ _ c1)).trans c1
            clear hb
            go_wp2_with fail
            refine (mulB u t ys zs _ h2 h3 G3.out).mono ?_
            rw [E2.out]
            rintro e w6 ⟨r_hy, rfl, hy, hb⟩
            replace h1 := h1.below hb
            replace h2 := h2.below hb
            replace h3 := h3.below hb
            replace hx := hx.below hb
            replace hB := hB.trans (hb.mono hB.size)
            replace c0 := (hb.cell (p := ⟨w.heap.size, 0, none⟩) (World.block_lt_of_cell? _ _ c0)).trans c0
            replace c1 := (hb.cell (p := ⟨w.heap.size, 1, none⟩) (World.block_lt_of_cell? _ _ c1)).trans c1
            clear hb
            go_wp2
            go_ret
            exact ⟨rfl, hB⟩
          · have E2 := Lib.hid (Mo.mulE_yes hN)
            have L2 := Lib.hid (hm2 hN)
            clear hN hm2
            go_enter Try.func7, Try.ntmps7
            go_wp2_with fail
            refine (awake_any _).mono ?_
            rintro e w1 ⟨rfl, hb⟩
            replace h1 := (h1.alloc _).below hb
            replace h2 := (h2.alloc _).below hb
            replace h3 := (h3.alloc _).below hb
            have hB : Below w.heap.size w w1 := ((Below.refl _ w).alloc (Nat.le_refl _) _).trans (hb.mono (by simp))
            have c0 : w1.cell? ⟨w.heap.size, 0, none⟩ = some (.int .i64 kind) := (hb.cell (p := ⟨w.heap.size, 0, none⟩) (by simp)).trans (by simp [go_sem])
            have c1 : w1.cell? ⟨w.heap.size, 1, none⟩ = some (.int .i64 c) := (hb.cell (p := ⟨w.heap.size, 1, none⟩) (by simp)).trans (by simp [go_sem])
            clear hb
            go_wp2_with fail
            refine (twoB _ u xs ys _ h1 h2).mono ?_
            rw [HT.out]
            rintro e w2 ⟨rfl, hb⟩
            replace h1 := h1.below hb
            replace h2 := h2.below hb
            replace h3 := h3.below hb
            replace hB := hB.trans (hb.mono hB.size)
            replace c0 := (hb.cell (p := ⟨w.heap.size, 0, none⟩) (World.block_lt_of_cell? _ _ c0)).trans c0
            replace c1 := (hb.cell (p := ⟨w.heap.size, 1, none⟩) (World.block_lt_of_cell? _ _ c1)).trans c1
            clear hb
            go_wp2_with fail
            refine (twoB _ t xs zs _ h1 h3).mono ?_
            rw [HS.out]
            rintro e w3 ⟨rfl, hb⟩
            replace h1 := h1.below hb
            replace h2 := h2.below hb
            replace h3 := h3.below hb
            replace hB := hB.trans (hb.mono hB.size)
            replace c0 := (hb.cell (p := ⟨w.heap.size, 0, none⟩) (World.block_lt_of_cell? _ _ c0)).trans c0
            replace c1 := (hb.cell (p := ⟨w.heap.size, 1, none⟩) (World.block_lt_of_cell? _ _ c1)).trans c1
            clear hb
            go_wp2_with fail
            refine (refOrder_any _ kind c _).mono ?_
            rw [HO.out]
            rintro e w4 ⟨rfl, hb⟩
            replace h1 := h1.below hb
            replace h2 := h2.below hb
            replace h3 := h3.below hb
            replace hB := hB.trans (hb.mono hB.size)
            replace c0 := (hb.cell (p := ⟨w.heap.size, 0, none⟩) (World.block_lt_of_cell? _ _ c0)).trans c0
            replace c1 := (hb.cell (p := ⟨w.heap.size, 1, none⟩) (World.block_lt_of_cell? _ _ c1)).trans c1
            clear hb
            go_wp2_with fail
            refine (mulB _ t xs zs _ h1 h3 G2.out).mono ?_
            rw [E1.out]
            rintro e w5 ⟨r_hx, rfl, hx, hb⟩
            replace h1 := h1.below hb
            replace h2 := h2.below hb
            replace h3 := h3.below hb
            replace hB := hB.trans (hb.mono hB.size)
            replace c0 := (hb.cell (p := ⟨w.heap.size, 0, none⟩) (World.block_lt_of_cell? _ _ c0)).trans c0
            replace c1 := (hb.cell (p := ⟨w.heap.size, 1, none⟩) (World.block_lt_of_cell? _ _ c1)).trans c1
            clear hb
            go_wp2_with fail
            refine (mulB u t ys zs _ h2 h3 G3.out).mono ?_
            rw [E2.out]
            rintro e w6 ⟨r_hy, rfl, hy, hb⟩
            replace h1 := h1.below hb
            replace h2 := h2.below hb
            replace h3 := h3.below hb
            replace hx := hx.below hb
            replace hB := hB.trans (hb.mono hB.size)
            replace c0 := (hb.cell (p := ⟨w.heap.size, 0, none⟩) (World.block_lt_of_cell? _ _ c0)).trans c0
            replace c1 := (hb.cell (p := ⟨w.heap.size, 1, none⟩) (World.block_lt_of_cell? _ _ c1)).trans c1
            clear hb
            rw [L1.out] at hx
            rw [L2.out] at hy
            have lt1 := World.block_lt_of_cell? _ _ c0
            go_wp2_with fail
            go_region_held3 (fun w' => w'.cell? ⟨w.heap.size, 0, none⟩ = some (.int .i64 kind) ∧ w'.cell? ⟨w.heap.size, 1, none⟩ = some (.int .i64 c))
              (first
                | exact ⟨c0, c1⟩
                | exact ⟨(hba.cell (p := ⟨w.heap.size, 0, none⟩) lt1).trans c0, (hba.cell (p := ⟨w.heap.size, 1, none⟩) lt1).trans c1⟩
                | exact ⟨(hbb.cell (p := ⟨w.heap.size, 0, none⟩) (Nat.lt_of_lt_of_le lt1 hba.size)).trans ((hba.cell (p := ⟨w.heap.size, 0, none⟩) lt1).trans c0), (hbb.cell (p := ⟨w.heap.size, 1, none⟩) (Nat.lt_of_lt_of_le lt1 hba.size)).trans ((hba.cell (p := ⟨w.heap.size, 1, none⟩) lt1).trans c1)⟩
                | exact ⟨(hbc.cell (p := ⟨w.heap.size, 0, none⟩) (Nat.lt_of_lt_of_le lt1 (Nat.le_trans hba.size hbb.size))).trans ((hbb.cell (p := ⟨w.heap.size, 0, none⟩) (Nat.lt_of_lt_of_le lt1 hba.size)).trans ((hba.cell (p := ⟨w.heap.size, 0, none⟩) lt1).trans c0)), (hbc.cell (p := ⟨w.heap.size, 1, none⟩) (Nat.lt_of_lt_of_le lt1 (Nat.le_trans hba.size hbb.size))).trans ((hbb.cell (p := ⟨w.heap.size, 1, none⟩) (Nat.lt_of_lt_of_le lt1 hba.size)).trans ((hba.cell (p := ⟨w.heap.size, 1, none⟩) lt1).trans c1))⟩
                | exact ⟨(hbd.cell (p := ⟨w.heap.size, 0, none⟩) (Nat.lt_of_lt_of_le lt1 (Nat.le_trans hba.size (Nat.le_trans hbb.size hbc.size)))).trans ((hbc.cell (p := ⟨w.heap.size, 0, none⟩) (Nat.lt_of_lt_of_le lt1 (Nat.le_trans hba.size hbb.size))).trans ((hbb.cell (p := ⟨w.heap.size, 0, none⟩) (Nat.lt_of_lt_of_le lt1 hba.size)).trans ((hba.cell (p := ⟨w.heap.size, 0, none⟩) lt1).trans c0))), (hbd.cell (p := ⟨w.heap.size, 1, none⟩) (Nat.lt_of_lt_of_le lt1 (Nat.le_trans hba.size (Nat.le_trans hbb.size hbc.size)))).trans ((hbc.cell (p := ⟨w.heap.size, 1, none⟩) (Nat.lt_of_lt_of_le lt1 (Nat.le_trans hba.size hbb.size))).trans ((hbb.cell (p := ⟨w.heap.size, 1, none⟩) (Nat.lt_of_lt_of_le lt1 hba.size)).trans ((hba.cell (p := ⟨w.heap.size, 1, none⟩) lt1).trans c1)))⟩)
              (first
                | (go_at_call 16; (with_reducible refine (cmpB kind c _ _ (Mo.sums xs zs) (Mo.sums ys zs) _ hx.drew hy.drew GS.out HOS.out).mono ?_); rw [Q1.out]; rintro e wa ⟨rfl, hba⟩)
                | (go_at_call 16; (with_reducible refine (cmpB kind c _ _ xs ys _ (h1.drew.below hba) (h2.drew.below hba) G.out HO.out).mono ?_); rintro e wb ⟨rfl, hbb⟩)
                | (go_at_call 16; (with_reducible refine (cmpB kind c _ _ (Mo.sums xs zs) xs _ ((hx.drew.below hba).below hbb) ((h1.drew.below hba).below hbb) GSX.out HOS.out).mono ?_); rw [HSS.out]; rintro e wc ⟨rfl, hbc⟩)
                | (go_at_call 21; refine (dividesB _ _ xs (Mo.sums xs zs) _ (((h1.drew.below hba).below hbb).below hbc) (((hx.drew.below hba).below hbb).below hbc) GSX.out.len.symm).mono ?_; rw [Q3.out]; rintro e wd ⟨rfl, hbd⟩))
            all_goals go_wp2
            all_goals go_ret
            all_goals exact ⟨rfl, (((hB.drew.trans (hba.mono hB.size)).trans (hbb.mono (Nat.le_trans hB.size hba.size))).trans (hbc.mono (Nat.le_trans hB.size (Nat.le_trans hba.size hbb.size)))).trans (hbd.mono (Nat.le_trans hB.size (Nat.le_trans hba.size (Nat.le_trans hbb.size hbc.size))))⟩

end Go.Proofs.Ytaidopbndlhpgaa
