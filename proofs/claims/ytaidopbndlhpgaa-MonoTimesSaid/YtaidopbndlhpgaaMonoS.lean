/-
  The law MonoTimes: its walk.
-/
import Derived.Test.YtaidopbndlhpgaaMonoR
namespace Go.Proofs.Ytaidopbndlhpgaa
open Go.RowKit

set_option maxRecDepth 100000 in
set_option maxHeartbeats 4000000 in
theorem lawTimes_any (v u : Value) (xs ys : List Int) (w : World) (h1 : Ints w v xs) (h2 : Ints w u ys) :
    Calls Try.prog 8 #[v, u] w fun e w' => e = .returned (.bool true) ∧ Below w.heap.size w w' := by
  cases hT : (Mo.rightB xs.length xs && Mo.rightB xs.length ys)
  · have HT := Lib.hid hT; clear hT
    go_enter Try.func8, Try.ntmps8
    go_wp2_with fail
    refine (awake_any _).mono ?_
    rintro e w1 ⟨rfl, hb⟩
    replace h1 := h1.below hb
    replace h2 := h2.below hb
    have hB : Below w.heap.size w w1 := hb
    clear hb
    go_wp2_with fail
    refine (twoB v u xs ys _ h1 h2).mono ?_
    rw [HT.out]
    rintro e w2 ⟨rfl, hb⟩
    replace h1 := h1.below hb
    replace h2 := h2.below hb
    replace hB := hB.trans (hb.mono hB.size)
    clear hb
    go_wp2
    go_ret
    exact ⟨rfl, hB⟩
  · have g := good_of hT
    have HT := Lib.hid hT; clear hT
    have G := Lib.hid g; clear g
    go_enter Try.func8, Try.ntmps8
    go_wp2_with fail
    refine (awake_any _).mono ?_
    rintro e w1 ⟨rfl, hb⟩
    replace h1 := h1.below hb
    replace h2 := h2.below hb
    have hB : Below w.heap.size w w1 := hb
    clear hb
    go_wp2_with fail
    refine (twoB v u xs ys _ h1 h2).mono ?_
    rw [HT.out]
    rintro e w2 ⟨rfl, hb⟩
    replace h1 := h1.below hb
    replace h2 := h2.below hb
    replace hB := hB.trans (hb.mono hB.size)
    clear hb
    go_wp2_with fail
    refine (mulB v u xs ys _ h1 h2 G.out).mono ?_
    rintro e w3 ⟨r_hp, rfl, hp, hb⟩
    replace h1 := h1.below hb
    replace h2 := h2.below hb
    replace hB := hB.trans (hb.mono hB.size)
    clear hb
    go_wp2_with fail
    refine (refMulB v u xs ys _ h1 h2 G.out).mono ?_
    rintro e w4 ⟨r_hq, rfl, hq, hb⟩
    replace h1 := h1.below hb
    replace h2 := h2.below hb
    replace hp := hp.below hb
    replace hB := hB.trans (hb.mono hB.size)
    clear hb
    go_wp2_with fail
    refine (divB v u xs ys _ h1 h2 G.out).mono ?_
    rintro e w5 ⟨r_hd, rfl, hd, hb⟩
    replace h1 := h1.below hb
    replace h2 := h2.below hb
    replace hp := hp.below hb
    replace hq := hq.below hb
    replace hB := hB.trans (hb.mono hB.size)
    clear hb
    go_wp2_with fail
    refine (refDivB v u xs ys _ h1 h2 G.out).mono ?_
    rintro e w6 ⟨r_hx, rfl, hx, hb⟩
    replace h1 := h1.below hb
    replace h2 := h2.below hb
    replace hp := hp.below hb
    replace hq := hq.below hb
    replace hd := hd.below hb
    replace hB := hB.trans (hb.mono hB.size)
    clear hb
    go_wp2_with fail
    refine (sameB _ _ _ _ _ hp hq).mono ?_
    rw [decide_eq_true (Eq.refl (Mo.mulL xs ys))]
    rintro e w7 ⟨rfl, hb⟩
    replace h1 := h1.below hb
    replace h2 := h2.below hb
    replace hp := hp.below hb
    replace hq := hq.below hb
    replace hd := hd.below hb
    replace hx := hx.below hb
    replace hB := hB.trans (hb.mono hB.size)
    clear hb
    go_wp2_with fail
    refine (sameB _ _ _ _ _ hd hx).mono ?_
    rw [decide_eq_true (Eq.refl (Mo.divL xs ys))]
    rintro e w8 ⟨rfl, hb⟩
    replace h1 := h1.below hb
    replace h2 := h2.below hb
    replace hp := hp.below hb
    replace hq := hq.below hb
    replace hd := hd.below hb
    replace hx := hx.below hb
    replace hB := hB.trans (hb.mono hB.size)
    clear hb
    go_wp2_with fail
    refine (dividesB v u xs ys _ h1 h2 G.out.len).mono ?_
    rintro e w9 ⟨rfl, hb⟩
    replace h1 := h1.below hb
    replace h2 := h2.below hb
    replace hp := hp.below hb
    replace hq := hq.below hb
    replace hd := hd.below hb
    replace hx := hx.below hb
    replace hB := hB.trans (hb.mono hB.size)
    clear hb
    go_wp2_with fail
    refine (refDividesB v u xs ys _ h1 h2 G.out.len).mono ?_
    rintro e w10 ⟨rfl, hb⟩
    replace h1 := h1.below hb
    replace h2 := h2.below hb
    replace hp := hp.below hb
    replace hq := hq.below hb
    replace hd := hd.below hb
    replace hx := hx.below hb
    replace hB := hB.trans (hb.mono hB.size)
    clear hb
    go_wp2_with fail
    refine (lcmB v u xs ys _ h1 h2 G.out).mono ?_
    rintro e w11 ⟨r_hl, rfl, hl, hb⟩
    replace h1 := h1.below hb
    replace h2 := h2.below hb
    replace hp := hp.below hb
    replace hq := hq.below hb
    replace hd := hd.below hb
    replace hx := hx.below hb
    replace hB := hB.trans (hb.mono hB.size)
    clear hb
    go_wp2_with fail
    refine (refLcmB v u xs ys _ h1 h2 G.out).mono ?_
    rintro e w12 ⟨r_hm, rfl, hm, hb⟩
    replace h1 := h1.below hb
    replace h2 := h2.below hb
    replace hp := hp.below hb
    replace hq := hq.below hb
    replace hd := hd.below hb
    replace hx := hx.below hb
    replace hl := hl.below hb
    replace hB := hB.trans (hb.mono hB.size)
    clear hb
    go_wp2_with fail
    refine (sameB _ _ _ _ _ hl hm).mono ?_
    rw [decide_eq_true (Eq.refl (List.zipWith max xs ys))]
    rintro e w13 ⟨rfl, hb⟩
    replace h1 := h1.below hb
    replace h2 := h2.below hb
    replace hp := hp.below hb
    replace hq := hq.below hb
    replace hd := hd.below hb
    replace hx := hx.below hb
    replace hl := hl.below hb
    replace hm := hm.below hb
    replace hB := hB.trans (hb.mono hB.size)
    clear hb
    go_wp2_with fail
    refine (gcdB v u xs ys _ h1 h2 G.out).mono ?_
    rintro e w14 ⟨r_hn, rfl, hn, hb⟩
    replace h1 := h1.below hb
    replace h2 := h2.below hb
    replace hp := hp.below hb
    replace hq := hq.below hb
    replace hd := hd.below hb
    replace hx := hx.below hb
    replace hl := hl.below hb
    replace hm := hm.below hb
    replace hB := hB.trans (hb.mono hB.size)
    clear hb
    go_wp2_with fail
    refine (refGcdB v u xs ys _ h1 h2 G.out).mono ?_
    rintro e w15 ⟨r_ho, rfl, ho, hb⟩
    replace h1 := h1.below hb
    replace h2 := h2.below hb
    replace hp := hp.below hb
    replace hq := hq.below hb
    replace hd := hd.below hb
    replace hx := hx.below hb
    replace hl := hl.below hb
    replace hm := hm.below hb
    replace hn := hn.below hb
    replace hB := hB.trans (hb.mono hB.size)
    clear hb
    go_wp2_with fail
    refine (sameB _ _ _ _ _ hn ho).mono ?_
    rw [decide_eq_true (Eq.refl (List.zipWith min xs ys))]
    rintro e w16 ⟨rfl, hb⟩
    replace h1 := h1.below hb
    replace h2 := h2.below hb
    replace hp := hp.below hb
    replace hq := hq.below hb
    replace hd := hd.below hb
    replace hx := hx.below hb
    replace hl := hl.below hb
    replace hm := hm.below hb
    replace hn := hn.below hb
    replace ho := ho.below hb
    replace hB := hB.trans (hb.mono hB.size)
    clear hb
    go_wp2_with fail
    refine (degB v xs _ h1 G.out.x0 G.out.small').mono ?_
    rintro e w17 ⟨rfl, hb⟩
    replace h1 := h1.below hb
    replace h2 := h2.below hb
    replace hp := hp.below hb
    replace hq := hq.below hb
    replace hd := hd.below hb
    replace hx := hx.below hb
    replace hl := hl.below hb
    replace hm := hm.below hb
    replace hn := hn.below hb
    replace ho := ho.below hb
    replace hB := hB.trans (hb.mono hB.size)
    clear hb
    go_wp2_with fail
    refine (refDegB v xs _ h1 G.out.x0 G.out.small').mono ?_
    rintro e w18 ⟨rfl, hb⟩
    replace h1 := h1.below hb
    replace h2 := h2.below hb
    replace hp := hp.below hb
    replace hq := hq.below hb
    replace hd := hd.below hb
    replace hx := hx.below hb
    replace hl := hl.below hb
    replace hm := hm.below hb
    replace hn := hn.below hb
    replace ho := ho.below hb
    replace hB := hB.trans (hb.mono hB.size)
    clear hb
    go_wp2
    go_ret
    exact ⟨rfl, hB⟩

end Go.Proofs.Ytaidopbndlhpgaa
