/-
  The law MonoBlock: its walk.
-/
import Derived.Test.YtaidopbndlhpgaaMonoR
import Derived.Test.YtaidopbndlhpgaaMonoPlain7
import Derived.Test.YtaidopbndlhpgaaMonoX
namespace Go.Proofs.Ytaidopbndlhpgaa
open Go.RowKit

set_option maxRecDepth 100000 in
set_option maxHeartbeats 4000000 in
theorem lawBlock_any (cut : Int) (v u : Value) (xs ys : List Int) (w : World) (h1 : Ints w v xs) (h2 : Ints w u ys) (hc : (Lit.int .u8 cut).wf = true) :
    Calls Try.prog 6 #[.int .u8 cut, v, u] w fun e w' => e = .returned (.bool true) ∧ Below w.heap.size w w' := by
  have hcut : 0 ≤ cut ∧ cut ≤ 255 := by
    have hmin : IntKind.u8.min = 0 := rfl
    have hmax : IntKind.u8.max = 255 := rfl
    simp only [Lit.wf, Bool.and_eq_true, decide_eq_true_eq] at hc
    omega
  obtain ⟨cu0, cu1⟩ := hcut
  clear hc
  have h10 := h1
  obtain ⟨a_1, cap_1, rfl, hcap_1, hmax_1, hc_1⟩ := h10
  clear hc_1
  cases hT : (Mo.rightB xs.length xs && Mo.rightB xs.length ys)
  · have HT := Lib.hid hT; clear hT
    go_enter Try.func6, Try.ntmps6
    go_wp2_with fail
    refine (awake_any _).mono ?_
    rintro e w1 ⟨rfl, hb⟩
    replace h1 := h1.below hb
    replace h2 := h2.below hb
    have hB : Below w.heap.size w w1 := hb
    clear hb
    go_wp2_with fail
    refine (twoB _ u xs ys _ h1 h2).mono ?_
    rw [HT.out]
    rintro e w2 ⟨rfl, hb⟩
    replace h1 := h1.below hb
    replace h2 := h2.below hb
    replace hB := hB.trans (hb.mono hB.size)
    clear hb
    go_wp2
    go_ret
    exact ⟨rfl, hB⟩
  · have g := good_of hT
    have hsm : xs.length ≤ 6 := g.small
    have HT := Lib.hid hT
    have G := Lib.hid g
    clear hT g
    go_enter Try.func6, Try.ntmps6
    go_wp2_with fail
    refine (awake_any _).mono ?_
    rintro e w1 ⟨rfl, hb⟩
    replace h1 := h1.below hb
    replace h2 := h2.below hb
    have hB : Below w.heap.size w w1 := hb
    clear hb
    go_wp2_with fail
    refine (twoB _ u xs ys _ h1 h2).mono ?_
    rw [HT.out]
    rintro e w2 ⟨rfl, hb⟩
    replace h1 := h1.below hb
    replace h2 := h2.below hb
    replace hB := hB.trans (hb.mono hB.size)
    clear hb
    go_wp2
    obtain ⟨kk, hkk⟩ : ∃ kk : Nat, cut % ((xs.length : Int) + 1) = (kk : Int) := ⟨(cut % ((xs.length : Int) + 1)).toNat, by rw [Int.toNat_of_nonneg (Int.emod_nonneg _ (by omega))]⟩
    have hkl : kk ≤ xs.length := by have := Int.emod_lt_of_pos cut (show (0 : Int) < (xs.length : Int) + 1 by omega); omega
    rw [hkk]
    have hk0 : (0 : Int) ≤ (kk : Int) := Int.natCast_nonneg _
    generalize hW : w2.alloc (Obj.cells #[Value.int IntKind.i64 3, Value.int IntKind.i64 (kk : Int)] 24) = w3
    replace h1 : Ints w3 (.slice a_1 xs.length cap_1) xs := by rw [← hW]; exact h1.alloc _
    replace h2 : Ints w3 u ys := by rw [← hW]; exact h2.alloc _
    have c0 : w3.cell? ⟨w2.heap.size, 0, none⟩ = some (.int .i64 3) := by rw [← hW]; simp [go_sem]
    have c1 : w3.cell? ⟨w2.heap.size, 1, none⟩ = some (.int .i64 (kk : Int)) := by rw [← hW]; simp [go_sem]
    replace hB : Below w.heap.size w w3 := by rw [← hW]; exact hB.alloc hB.size _
    have hlt := World.block_lt_of_cell? _ _ c0
    clear hW hkk
    generalize w2.heap.size = bO at *
    obtain ⟨i0, hi, hz0, hz1, hz2⟩ := info_parts info_int
    obtain ⟨Cz, hCz⟩ : ∃ C, madeCells (Value.int IntKind.i64 0).cells (kk * 1) = C := ⟨_, rfl⟩
    have hmk : ∀ w : World, (Instr.makeSlice 22 (.int .i64 (kk : Int)) (.int .i64 (kk : Int))).run Try.prog w = .ok (.slice (some ⟨w.heap.size, 0, none⟩) kk kk) (w.alloc (.cells Cz 3)) := fun w => by
      have := run_make (P := Try.prog) w 22 3 i0 (.int .i64 0) Try.underlying22 hi hz0 .i64 .i64 (kk : Int) (kk : Int) hk0 (Int.le_refl _) (by rw [hz2]; omega) (by omega)
      rw [hz1, Int.toNat_natCast] at this
      rw [← hCz]
      exact this
    have HMK := Lib.hid hmk
    clear hmk
    have hown0 : ∀ w : World, OwnI (w.alloc (.cells Cz 3)) w.heap.size (.slice (some ⟨w.heap.size, 0, none⟩) kk kk) (List.replicate kk 0) := fun w => own_made w kk Cz hCz (by omega)
    have hsz : ∀ w : World, w.heap.size ≤ (w.alloc (.cells Cz 3)).heap.size := fun w => (Below.alloc (Below.refl _ w) (Nat.le_refl _) _).size
    have hsum1 : (List.replicate kk (0 : Int)).length + (xs.drop (kk : Int).toNat).length ≤ 1000000000 := by simp; omega
    have hsum2 : (List.replicate kk (0 : Int)).length + (ys.drop (kk : Int).toNat).length ≤ 1000000000 := by simp; have := G.out.len; omega
    obtain ⟨V1, hV1, iV1⟩ := slice_drop slInt sizeInt h1 (kk : Int) hk0 (by omega)
    have hmk : ∀ w : World, (Instr.makeSlice 22 (.int .i64 (kk : Int)) (.int .i64 (kk : Int))).run Try.prog w = .ok (.slice (some ⟨w.heap.size, 0, none⟩) kk kk) (w.alloc (.cells Cz 3)) := HMK.out
    have hkw3 : ∀ w' : World, Below w3.heap.size w3 w' → w'.cell? ⟨bO, 0, none⟩ = some (.int .i64 3) ∧ w'.cell? ⟨bO, 1, none⟩ = some (.int .i64 (kk : Int)) := fun w' hb => ⟨(hb.cell (p := ⟨bO, 0, none⟩) hlt).trans c0, (hb.cell (p := ⟨bO, 1, none⟩) hlt).trans c1⟩
    go_region_held3 (fun w' => w'.cell? ⟨bO, 0, none⟩ = some (.int .i64 3) ∧ w'.cell? ⟨bO, 1, none⟩ = some (.int .i64 (kk : Int)))
      (first
        | exact hkw3 _ (Below.refl _ _).drew
        | exact hkw3 _ ((Below.refl _ _).alloc (Nat.le_refl _) _).drew
        | exact hkw3 _ ((Below.refl _ _).alloc (Nat.le_refl _) _)
        | exact hkw3 _ (((Below.refl _ _).alloc (Nat.le_refl _) _).drew.trans hb1))
      ((refine step_app_ints (by rfl) _ _ (by rfl) w3.heap.size (.slice (some ⟨w3.heap.size, 0, none⟩) kk kk) (List.replicate kk 0) (by rfl) (hown0 w3) V1 _ (by rfl) (iV1.alloc _) hsum1 (hsz w3) ?_; intro r1 w4 ho1 hb1))

    have hle1 : (List.replicate kk (0 : Int) ++ xs.drop (kk : Int).toNat : List Int).length ≤ (9223372036854775807 : Int) := by rw [List.length_append]; have := hsum1; omega
    have hle2 : (List.replicate kk (0 : Int) ++ ys.drop (kk : Int).toNat : List Int).length ≤ (9223372036854775807 : Int) := by rw [List.length_append]; have := hsum2; omega
    replace h1 := h1.below (((Below.refl _ _).alloc (Nat.le_refl _) _).drew.trans hb1)
    replace h2 := h2.below (((Below.refl _ _).alloc (Nat.le_refl _) _).drew.trans hb1)
    have hX1 : Ints w4 r1 (Mo.pad kk xs) := by
      have := ho1.ints hle1
      rw [Int.toNat_natCast] at this
      exact this
    replace hB : Below w.heap.size w w4 := hB.trans ((((Below.refl _ _).alloc (Nat.le_refl _) _).drew.trans hb1).mono hB.size)
    replace c0 := (hkw3 _ (((Below.refl _ _).alloc (Nat.le_refl _) _).drew.trans hb1)).1
    replace c1 := (hkw3 _ (((Below.refl _ _).alloc (Nat.le_refl _) _).drew.trans hb1)).2
    clear hkw3 hV1 iV1 hmk ho1 hb1

    replace hlt := World.block_lt_of_cell? _ _ c0
    go_wp2
    obtain ⟨V2, hV2, iV2⟩ := slice_drop slInt sizeInt h2 (kk : Int) hk0 (by have := G.out.len; omega)
    have hmk : ∀ w : World, (Instr.makeSlice 22 (.int .i64 (kk : Int)) (.int .i64 (kk : Int))).run Try.prog w = .ok (.slice (some ⟨w.heap.size, 0, none⟩) kk kk) (w.alloc (.cells Cz 3)) := HMK.out
    have hkw4 : ∀ w' : World, Below w4.heap.size w4 w' → w'.cell? ⟨bO, 0, none⟩ = some (.int .i64 3) ∧ w'.cell? ⟨bO, 1, none⟩ = some (.int .i64 (kk : Int)) := fun w' hb => ⟨(hb.cell (p := ⟨bO, 0, none⟩) hlt).trans c0, (hb.cell (p := ⟨bO, 1, none⟩) hlt).trans c1⟩
    go_region_held3 (fun w' => w'.cell? ⟨bO, 0, none⟩ = some (.int .i64 3) ∧ w'.cell? ⟨bO, 1, none⟩ = some (.int .i64 (kk : Int)))
      (first
        | exact hkw4 _ (Below.refl _ _).drew
        | exact hkw4 _ ((Below.refl _ _).alloc (Nat.le_refl _) _).drew
        | exact hkw4 _ ((Below.refl _ _).alloc (Nat.le_refl _) _)
        | exact hkw4 _ (((Below.refl _ _).alloc (Nat.le_refl _) _).drew.trans hb2))
      ((refine step_app_ints (by rfl) _ _ (by rfl) w4.heap.size (.slice (some ⟨w4.heap.size, 0, none⟩) kk kk) (List.replicate kk 0) (by rfl) (hown0 w4) V2 _ (by rfl) (iV2.alloc _) hsum2 (hsz w4) ?_; intro r2 w5 ho2 hb2))

    replace h1 := h1.below (((Below.refl _ _).alloc (Nat.le_refl _) _).drew.trans hb2)
    replace hX1 := hX1.below (((Below.refl _ _).alloc (Nat.le_refl _) _).drew.trans hb2)
    replace h2 := h2.below (((Below.refl _ _).alloc (Nat.le_refl _) _).drew.trans hb2)
    have hX2 : Ints w5 r2 (Mo.pad kk ys) := by
      have := ho2.ints hle2
      rw [Int.toNat_natCast] at this
      exact this
    replace hB : Below w.heap.size w w5 := hB.trans ((((Below.refl _ _).alloc (Nat.le_refl _) _).drew.trans hb2).mono hB.size)
    replace c0 := (hkw4 _ (((Below.refl _ _).alloc (Nat.le_refl _) _).drew.trans hb2)).1
    replace c1 := (hkw4 _ (((Below.refl _ _).alloc (Nat.le_refl _) _).drew.trans hb2)).2
    clear hkw4 hV2 iV2 hmk ho2 hb2

    clear hlt hCz HMK hown0 hsz hsum1 hsum2 hle1 hle2 hi hz0 hz1 hz2
    obtain ⟨T2, hT2, iT2⟩ := slice_take slInt sizeInt h2 (kk : Int) hk0 (by have := G.out.len; omega)
    rw [Int.toNat_natCast] at iT2
    have glp : (Mo.pad kk xs).length = xs.length := Mo.pad_length kk xs hkl
    have glq : (Mo.pad kk ys).length = ys.length := Mo.pad_length kk ys (by have := G.out.len; omega)
    have gpq : Good (Mo.pad kk xs) (Mo.pad kk ys) := ⟨by have := G.out.len; omega, by omega, Mo.pad_mem kk xs 1000 (by omega) G.out.x0, Mo.pad_mem kk ys 1000 (by omega) G.out.y0⟩
    have gyp : Good ys (Mo.pad kk xs) := ⟨by have := G.out.len; omega, by have := G.out.len; omega, G.out.y0, gpq.x0⟩
    have ho3 : Mo.orderB ys.length 3 kk = true := by have := G.out.len; simp [Mo.orderB]; omega
    have ho4 : Mo.orderB (Mo.pad kk xs).length 3 kk = true := by rw [glp]; simp [Mo.orderB]; omega
    have ho5 : Mo.orderB (Mo.pad kk xs).length 2 0 = true := by rw [glp]; simp [Mo.orderB]; omega
    have hgr : Mo.cmpC 3 kk (Mo.pad kk xs) (Mo.pad kk ys) = Mo.cmpC 2 0 (Mo.pad kk xs) (Mo.pad kk ys) := Mo.block_grev kk xs ys G.out.len
    have htl : ∀ x ∈ ys.take kk, 0 ≤ x ∧ x ≤ 1000 := fun x hx => G.out.y0 x (List.mem_of_mem_take hx)
    have htn : (ys.take kk).length ≤ 1000 := by simp; omega
    obtain ⟨dd, hdd⟩ : ∃ d, Mo.deg (ys.take kk) = d := ⟨_, rfl⟩
    have hbl : 0 < dd → Mo.cmpC 3 kk ys (Mo.pad kk xs) = 1 := fun h => Mo.block_greater kk xs ys (by rw [hdd]; exact h)
    have GPQ := Lib.hid gpq
    have GYP := Lib.hid gyp
    have HO3 := Lib.hid ho3
    have HO4 := Lib.hid ho4
    have HO5 := Lib.hid ho5
    have HGR := Lib.hid hgr
    have HTL := Lib.hid htl
    have HDD := Lib.hid hdd
    have HBL := Lib.hid hbl
    clear glp glq gpq gyp ho3 ho4 ho5 hgr htl hdd hbl

    go_wp2_with fail
    refine (refDegB T2 _ _ iT2 HTL.out htn).mono ?_
    rw [HDD.out]
    rintro e w6 ⟨rfl, hb⟩
    replace h1 := h1.below hb
    replace hX1 := hX1.below hb
    replace h2 := h2.below hb
    replace hX2 := hX2.below hb
    replace hB := hB.trans (hb.mono hB.size)
    replace c0 := (hb.cell (p := ⟨bO, 0, none⟩) (World.block_lt_of_cell? _ _ c0)).trans c0
    replace c1 := (hb.cell (p := ⟨bO, 1, none⟩) (World.block_lt_of_cell? _ _ c1)).trans c1
    clear hb
    by_cases hpos : 0 < dd
    · skip
      go_wp2_with fail
      refine (cmpB 3 kk u _ ys _ _ h2 hX1 GYP.out HO3.out).mono ?_
      rw [HBL.out hpos]
      rintro e w7 ⟨rfl, hb⟩
      replace h1 := h1.below hb
      replace hX1 := hX1.below hb
      replace h2 := h2.below hb
      replace hX2 := hX2.below hb
      replace hB := hB.trans (hb.mono hB.size)
      replace c0 := (hb.cell (p := ⟨bO, 0, none⟩) (World.block_lt_of_cell? _ _ c0)).trans c0
      replace c1 := (hb.cell (p := ⟨bO, 1, none⟩) (World.block_lt_of_cell? _ _ c1)).trans c1
      clear hb
      go_wp2_with fail
      refine (cmpB 3 kk _ _ _ _ _ hX1 hX2 GPQ.out HO4.out).mono ?_
      rw [HGR.out]
      rintro e w8 ⟨rfl, hb⟩
      replace h1 := h1.below hb
      replace hX1 := hX1.below hb
      replace h2 := h2.below hb
      replace hX2 := hX2.below hb
      replace hB := hB.trans (hb.mono hB.size)
      replace c0 := (hb.cell (p := ⟨bO, 0, none⟩) (World.block_lt_of_cell? _ _ c0)).trans c0
      replace c1 := (hb.cell (p := ⟨bO, 1, none⟩) (World.block_lt_of_cell? _ _ c1)).trans c1
      clear hb
      go_wp2_with fail
      refine (cmpB 2 0 _ _ _ _ _ hX1 hX2 GPQ.out HO5.out).mono ?_
      rintro e w9 ⟨rfl, hb⟩
      replace h1 := h1.below hb
      replace hX1 := hX1.below hb
      replace h2 := h2.below hb
      replace hX2 := hX2.below hb
      replace hB := hB.trans (hb.mono hB.size)
      replace c0 := (hb.cell (p := ⟨bO, 0, none⟩) (World.block_lt_of_cell? _ _ c0)).trans c0
      replace c1 := (hb.cell (p := ⟨bO, 1, none⟩) (World.block_lt_of_cell? _ _ c1)).trans c1
      clear hb
      go_wp2
      go_ret
      exact ⟨rfl, hB⟩
    · skip
      go_wp2_with fail
      refine (cmpB 3 kk _ _ _ _ _ hX1 hX2 GPQ.out HO4.out).mono ?_
      rw [HGR.out]
      rintro e w7 ⟨rfl, hb⟩
      replace h1 := h1.below hb
      replace hX1 := hX1.below hb
      replace h2 := h2.below hb
      replace hX2 := hX2.below hb
      replace hB := hB.trans (hb.mono hB.size)
      replace c0 := (hb.cell (p := ⟨bO, 0, none⟩) (World.block_lt_of_cell? _ _ c0)).trans c0
      replace c1 := (hb.cell (p := ⟨bO, 1, none⟩) (World.block_lt_of_cell? _ _ c1)).trans c1
      clear hb
      go_wp2_with fail
      refine (cmpB 2 0 _ _ _ _ _ hX1 hX2 GPQ.out HO5.out).mono ?_
      rintro e w8 ⟨rfl, hb⟩
      replace h1 := h1.below hb
      replace hX1 := hX1.below hb
      replace h2 := h2.below hb
      replace hX2 := hX2.below hb
      replace hB := hB.trans (hb.mono hB.size)
      replace c0 := (hb.cell (p := ⟨bO, 0, none⟩) (World.block_lt_of_cell? _ _ c0)).trans c0
      replace c1 := (hb.cell (p := ⟨bO, 1, none⟩) (World.block_lt_of_cell? _ _ c1)).trans c1
      clear hb
      go_wp2
      go_ret
      exact ⟨rfl, hB⟩

end Go.Proofs.Ytaidopbndlhpgaa
