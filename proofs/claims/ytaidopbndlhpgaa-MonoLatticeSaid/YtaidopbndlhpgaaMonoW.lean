/-
  The law MonoLattice: its walk.
-/
import Derived.Test.YtaidopbndlhpgaaMonoR
import Derived.Test.YtaidopbndlhpgaaMonoPlain6
namespace Go.Proofs.Ytaidopbndlhpgaa
open Go.RowKit

set_option maxRecDepth 100000 in
set_option maxHeartbeats 4000000 in
theorem lawLattice_any (v u : Value) (xs ys : List Int) (w : World) (h1 : Ints w v xs) (h2 : Ints w u ys) :
    Calls Try.prog 9 #[v, u] w fun e w' => e = .returned (.bool true) ∧ Below w.heap.size w w' := by
  cases hT : (Mo.rightB xs.length xs && Mo.rightB xs.length ys)
  · have HT := Lib.hid hT; clear hT
    go_enter Try.func9, Try.ntmps9
    go_wp2_with fail
    refine (awake_any _).mono ?_
    rintro e w1 ⟨rfl, hb⟩
    replace h1 := h1.below hb
    replace h2 := h2.below hb
    have hB : Below w.heap.size w w1 := hb
    clear hb
    go_wp2_with fail
    refine (twoB v u xs ys _ h1 h2).mono ?_
    rw [HT.out]
    rintro e w2 ⟨rfl, hb⟩
    replace h1 := h1.below hb
    replace h2 := h2.below hb
    replace hB := hB.trans (hb.mono hB.size)
    clear hb
    go_wp2
    go_ret
    exact ⟨rfl, hB⟩
  · have g := good_of hT
    have rgt := hT
    rw [Bool.and_eq_true] at rgt
    have bx := (rightB_len rgt.1).2.2.2
    have by' := (rightB_len rgt.2).2.2.2
    have bl := Mo.max_bound bx by'
    have bg := Mo.min_bound bx by'
    have d1 := Mo.dvd_max_left xs ys g.len
    have d2 := Mo.dvd_max_right xs ys g.len
    have d3 := Mo.dvd_min_left xs ys g.len
    have d4 := Mo.dvd_min_right xs ys g.len
    have dd := Mo.deg_max_min xs ys g.len
    have dm := Mo.dvd_iff_max xs ys g.len
    obtain ⟨l, hl⟩ : ∃ l, List.zipWith max xs ys = l := ⟨_, rfl⟩
    obtain ⟨m, hm⟩ : ∃ m, List.zipWith min xs ys = m := ⟨_, rfl⟩
    have ll : l.length = xs.length := by rw [← hl]; simp [g.len]
    have lm : m.length = xs.length := by rw [← hm]; simp [g.len]
    rw [hl] at bl d1 d2 dd dm
    rw [hm] at bg d3 d4 dd
    have bs := Mo.sub_bound l xs ll d1 bl bx
    have ss := Mo.sums_sub l xs ll
    have bd : ∀ q : List Int, q.length ≤ 6 → (∀ x ∈ q, 0 ≤ x ∧ x ≤ 60) → 0 ≤ Mo.deg q ∧ Mo.deg q ≤ 1000000 := fun q hq hb => Mo.deg_small q (fun x hx => by have := hb x hx; omega) (by omega)
    have e1 := bd xs g.small bx
    have e2 := bd ys (by rw [← g.len]; exact g.small) by'
    have e3 := bd l (by rw [ll]; exact g.small) bl
    have e4 := bd m (by rw [lm]; exact g.small) bg
    obtain ⟨q, hq⟩ : ∃ q, List.zipWith (· - ·) l xs = q := ⟨_, rfl⟩
    have lq : q.length = xs.length := by rw [← hq]; simp [ll]
    rw [hq] at bs ss
    have w60 : ∀ {z : List Int}, (∀ x ∈ z, 0 ≤ x ∧ x ≤ 60) → ∀ x ∈ z, 0 ≤ x ∧ x ≤ 1000 := fun h x hx => by have := h x hx; omega
    have glx : Good l xs := ⟨ll, by rw [ll]; exact g.small, w60 bl, g.x0⟩
    have gly : Good l ys := ⟨by rw [ll, g.len], by rw [ll]; exact g.small, w60 bl, g.y0⟩
    have gmx : Good m xs := ⟨lm, by rw [lm]; exact g.small, w60 bg, g.x0⟩
    have gqx : Good q xs := ⟨lq, by rw [lq]; exact g.small, w60 bs, g.x0⟩
    have hmB : Mo.mulB q xs = true := by
      unfold Mo.mulB
      rw [ss, List.all_eq_true]
      intro x hx
      have := bl x hx
      simp; omega
    have hL : Mo.mulL q xs = l := by rw [Mo.mulL_yes hmB]; exact ss
    have hE := Mo.mulE_yes hmB
    have hdL : Mo.divL l xs = q := by rw [Mo.divL_yes d1]; exact hq
    obtain ⟨n1, f1⟩ : ∃ n, Mo.deg xs = n := ⟨_, rfl⟩
    obtain ⟨n2, f2⟩ : ∃ n, Mo.deg ys = n := ⟨_, rfl⟩
    obtain ⟨n3, f3⟩ : ∃ n, Mo.deg l = n := ⟨_, rfl⟩
    obtain ⟨n4, f4⟩ : ∃ n, Mo.deg m = n := ⟨_, rfl⟩
    rw [f1] at e1
    rw [f2] at e2
    rw [f3] at e3
    rw [f4] at e4
    rw [f1, f2, f3, f4] at dd
    have hbb : (n3 + n4 != n1 + n2) = false := by simp [dd]
    have HT := Lib.hid hT
    have G := Lib.hid g
    have GLX := Lib.hid glx
    have GLY := Lib.hid gly
    have GMX := Lib.hid gmx
    have GQX := Lib.hid gqx
    have HL := Lib.hid hL
    have HE := Lib.hid hE
    have HDL := Lib.hid hdL
    have D1 := Lib.hid d1
    have D2 := Lib.hid d2
    have D3 := Lib.hid d3
    have D4 := Lib.hid d4
    have DM := Lib.hid dm
    have F1 := Lib.hid f1
    have F2 := Lib.hid f2
    have F3 := Lib.hid f3
    have F4 := Lib.hid f4
    have RL := Lib.hid hl
    have RM := Lib.hid hm
    clear hT g glx gly gmx gqx hL hE hdL d1 d2 d3 d4 dm f1 f2 f3 f4 hl hm bd w60 bx by' bl bg ll lm bs ss lq hq hmB rgt dd
    go_enter Try.func9, Try.ntmps9
    go_wp2_with fail
    refine (awake_any _).mono ?_
    rintro e w1 ⟨rfl, hb⟩
    replace h1 := h1.below hb
    replace h2 := h2.below hb
    have hB : Below w.heap.size w w1 := hb
    clear hb
    go_wp2_with fail
    refine (twoB v u xs ys _ h1 h2).mono ?_
    rw [HT.out]
    rintro e w2 ⟨rfl, hb⟩
    replace h1 := h1.below hb
    replace h2 := h2.below hb
    replace hB := hB.trans (hb.mono hB.size)
    clear hb
    go_wp2_with fail
    refine (lcmB v u xs ys _ h1 h2 G.out).mono ?_
    rw [RL.out]
    rintro e w3 ⟨r_hl, rfl, hl, hb⟩
    replace h1 := h1.below hb
    replace h2 := h2.below hb
    replace hB := hB.trans (hb.mono hB.size)
    clear hb
    go_wp2_with fail
    refine (gcdB v u xs ys _ h1 h2 G.out).mono ?_
    rw [RM.out]
    rintro e w4 ⟨r_hm, rfl, hm, hb⟩
    replace h1 := h1.below hb
    replace h2 := h2.below hb
    replace hl := hl.below hb
    replace hB := hB.trans (hb.mono hB.size)
    clear hb
    go_wp2_with fail
    refine (dividesB v _ xs l _ h1 hl GLX.out.len.symm).mono ?_
    rw [D1.out]
    rintro e w5 ⟨rfl, hb⟩
    replace h1 := h1.below hb
    replace h2 := h2.below hb
    replace hl := hl.below hb
    replace hm := hm.below hb
    replace hB := hB.trans (hb.mono hB.size)
    clear hb
    go_wp2_with fail
    refine (dividesB u _ ys l _ h2 hl GLY.out.len.symm).mono ?_
    rw [D2.out]
    rintro e w6 ⟨rfl, hb⟩
    replace h1 := h1.below hb
    replace h2 := h2.below hb
    replace hl := hl.below hb
    replace hm := hm.below hb
    replace hB := hB.trans (hb.mono hB.size)
    clear hb
    go_wp2_with fail
    refine (dividesB _ v m xs _ hm h1 GMX.out.len).mono ?_
    rw [D3.out]
    rintro e w7 ⟨rfl, hb⟩
    replace h1 := h1.below hb
    replace h2 := h2.below hb
    replace hl := hl.below hb
    replace hm := hm.below hb
    replace hB := hB.trans (hb.mono hB.size)
    clear hb
    go_wp2_with fail
    refine (dividesB _ u m ys _ hm h2 (GMX.out.len.trans G.out.len)).mono ?_
    rw [D4.out]
    rintro e w8 ⟨rfl, hb⟩
    replace h1 := h1.below hb
    replace h2 := h2.below hb
    replace hl := hl.below hb
    replace hm := hm.below hb
    replace hB := hB.trans (hb.mono hB.size)
    clear hb
    go_wp2_with fail
    refine (degB _ l _ hl GLX.out.x0 GLX.out.small').mono ?_
    rw [F3.out]
    rintro e w9 ⟨rfl, hb⟩
    replace h1 := h1.below hb
    replace h2 := h2.below hb
    replace hl := hl.below hb
    replace hm := hm.below hb
    replace hB := hB.trans (hb.mono hB.size)
    clear hb
    go_wp2_with fail
    refine (degB _ m _ hm GMX.out.x0 GMX.out.small').mono ?_
    rw [F4.out]
    rintro e w10 ⟨rfl, hb⟩
    replace h1 := h1.below hb
    replace h2 := h2.below hb
    replace hl := hl.below hb
    replace hm := hm.below hb
    replace hB := hB.trans (hb.mono hB.size)
    clear hb
    go_wp2_with fail
    refine (degB v xs _ h1 G.out.x0 G.out.small').mono ?_
    rw [F1.out]
    rintro e w11 ⟨rfl, hb⟩
    replace h1 := h1.below hb
    replace h2 := h2.below hb
    replace hl := hl.below hb
    replace hm := hm.below hb
    replace hB := hB.trans (hb.mono hB.size)
    clear hb
    go_wp2_with fail
    refine (degB u ys _ h2 G.out.y0 G.out.ylen).mono ?_
    rw [F2.out]
    rintro e w12 ⟨rfl, hb⟩
    replace h1 := h1.below hb
    replace h2 := h2.below hb
    replace hl := hl.below hb
    replace hm := hm.below hb
    replace hB := hB.trans (hb.mono hB.size)
    clear hb
    go_wp2_with fail
    refine (divB _ v l xs _ hl h1 GLX.out).mono ?_
    rw [D1.out, HDL.out]
    rintro e w13 ⟨r_hq, rfl, hq, hb⟩
    replace h1 := h1.below hb
    replace h2 := h2.below hb
    replace hl := hl.below hb
    replace hm := hm.below hb
    replace hB := hB.trans (hb.mono hB.size)
    clear hb
    go_wp2_with fail
    refine (mulB _ v q xs _ hq h1 GQX.out).mono ?_
    rw [HE.out, HL.out]
    rintro e w14 ⟨r_hp, rfl, hp, hb⟩
    replace h1 := h1.below hb
    replace h2 := h2.below hb
    replace hl := hl.below hb
    replace hm := hm.below hb
    replace hq := hq.below hb
    replace hB := hB.trans (hb.mono hB.size)
    clear hb
    go_wp2_with fail
    refine (sameB _ _ l l _ hp hl).mono ?_
    rw [decide_eq_true (Eq.refl l)]
    rintro e w15 ⟨rfl, hb⟩
    replace h1 := h1.below hb
    replace h2 := h2.below hb
    replace hl := hl.below hb
    replace hm := hm.below hb
    replace hq := hq.below hb
    replace hp := hp.below hb
    replace hB := hB.trans (hb.mono hB.size)
    clear hb
    go_wp2_with fail
    refine (dividesB v u xs ys _ h1 h2 G.out.len).mono ?_
    rintro e w16 ⟨rfl, hb⟩
    replace h1 := h1.below hb
    replace h2 := h2.below hb
    replace hl := hl.below hb
    replace hm := hm.below hb
    replace hq := hq.below hb
    replace hp := hp.below hb
    replace hB := hB.trans (hb.mono hB.size)
    clear hb
    go_wp2_with fail
    refine (sameB _ _ l ys _ hl h2).mono ?_
    rw [DM.out]
    rintro e w17 ⟨rfl, hb⟩
    replace h1 := h1.below hb
    replace h2 := h2.below hb
    replace hl := hl.below hb
    replace hm := hm.below hb
    replace hq := hq.below hb
    replace hp := hp.below hb
    replace hB := hB.trans (hb.mono hB.size)
    clear hb
    go_wp2
    go_ret
    exact ⟨rfl, hB⟩

end Go.Proofs.Ytaidopbndlhpgaa
