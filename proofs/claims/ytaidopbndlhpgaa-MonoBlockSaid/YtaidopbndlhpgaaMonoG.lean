/-
  The walks of the small functions on exponent lists, seventh part: blocks; the comparison by any order.
-/
import Derived.Test.YtaidopbndlhpgaaMonoF
import Derived.Deep.RegionWith
namespace Go.Proofs.Ytaidopbndlhpgaa
open Go.RowKit

theorem slInt : Try.prog.underlying 22 = some (.slice (Try.prog.elem 22)) := by kernel_rfl
theorem sizeInt (w : World) : (sizeOf (Try.prog.elem 22)).run Try.prog w = .ok 1 w := by kernel_rfl

set_option maxHeartbeats 1000000 in
theorem block_any (c : Int) (v u : Value) (xs ys : List Int) (w : World) (h : Ints w v xs) (k : Ints w u ys) (hle : xs.length = ys.length) (hx0 : ∀ x ∈ xs, 0 ≤ x ∧ x ≤ 1000) (hy0 : ∀ x ∈ ys, 0 ≤ x ∧ x ≤ 1000) (hn : xs.length ≤ 1000) (h0 : 0 ≤ c) (h1 : c ≤ xs.length) :
    Calls Try.prog 38 #[.int .i64 c, v, u] w fun e w' => e = .returned (.int .i64 (Mo.cmpC 3 c xs ys)) ∧ Below w.heap.size w w' := by
  obtain ⟨V1, hV1, iV1⟩ := slice_take slInt sizeInt h c h0 h1
  obtain ⟨V2, hV2, iV2⟩ := slice_drop slInt sizeInt h c h0 h1
  obtain ⟨U1, hU1, iU1⟩ := slice_take slInt sizeInt k c h0 (by omega)
  obtain ⟨U2, hU2, iU2⟩ := slice_drop slInt sizeInt k c h0 (by omega)
  have c1 := fun W (b : Below w.heap.size w W) => grevlex_any (.int .i64 0) V1 U1 _ _ W (iV1.below b) (iU1.below b) (by simp [hle]) (fun x hx => hx0 x (List.mem_of_mem_take hx)) (fun x hx => hy0 x (List.mem_of_mem_take hx)) (by simp; omega)
  have c2 := fun W (b : Below w.heap.size w W) => grevlex_any (.int .i64 0) V2 U2 _ _ W (iV2.below b) (iU2.below b) (by simp [hle]) (fun x hx => hx0 x (List.mem_of_mem_drop hx)) (fun x hx => hy0 x (List.mem_of_mem_drop hx)) (by simp; omega)
  have C1 := Lib.hid c1; clear c1
  have C2 := Lib.hid c2; clear c2
  clear hle hx0 hy0 hn h k
  obtain ⟨q, hq⟩ : ∃ r, Mo.grevC (xs.take c.toNat) (ys.take c.toNat) = r := ⟨_, rfl⟩
  obtain ⟨r, hr⟩ : ∃ r, Mo.grevC (xs.drop c.toNat) (ys.drop c.toNat) = r := ⟨_, rfl⟩
  have hor : Mo.orL [q, r] = Mo.cmpC 3 c xs ys := by
    rw [Mo.orL_two, ← hq, ← hr]
    simp [Mo.cmpC]
  have HQ := Lib.hid hq; clear hq
  have HR := Lib.hid hr; clear hr
  have HO := Lib.hid hor; clear hor
  go_enter Try.func38, Try.ntmps38
  go_wp2
  go_region_with (first | (go_at_call 37; (with_reducible refine (C1.out _ ((Below.refl _ _).drew)).mono ?_); rw [HQ.out]; rintro e w1 ⟨rfl, hb1⟩; have hb1' : Below w.heap.size w w1 := (Below.refl _ w).drew.trans hb1) | (go_at_call 37; (with_reducible refine (C2.out _ (by assumption)).mono ?_); rw [HR.out]; rintro e w2 ⟨rfl, hb2⟩; have hb2' : Below w.heap.size w w2 := hb1'.trans (hb2.mono hb1'.size)) | (go_at_call 49; refine (cmpOr_any _ [q, r] _ (ints_new _ [q, r] _ (by simp))).mono ?_; rintro e w' ⟨rfl, rfl⟩))
  all_goals go_wp2
  all_goals go_ret
  all_goals exact ⟨by rw [← HO.out]; rfl, hb2'.alloc hb2'.size _⟩

set_option maxHeartbeats 1000000 in
/-- ref24.Cmp -/
theorem refCmp_any (kind c : Int) (v u : Value) (xs ys : List Int) (w : World) (h : Ints w v xs) (k : Ints w u ys) (hle : xs.length = ys.length) (hx0 : ∀ x ∈ xs, 0 ≤ x ∧ x ≤ 1000) (hy0 : ∀ x ∈ ys, 0 ≤ x ∧ x ≤ 1000) (hn : xs.length ≤ 1000) (h0 : 0 ≤ c) (h1 : c ≤ xs.length) :
    Calls Try.prog 17 #[.agg #[.int .i64 kind, .int .i64 c], v, u] w fun e w' => e = .returned (.int .i64 (Mo.cmpC kind c xs ys)) ∧ Below w.heap.size w w' := by
  have hn2 : ys.length ≤ 1000 := by omega
  have hlex := fun W (b : Below w.heap.size w W) => lex_any v u xs ys W (h.below b) (k.below b) hle hx0 hy0
  have hgrev := fun W (b : Below w.heap.size w W) => grev_any v u xs ys W (h.below b) (k.below b) hle hn hx0 hy0
  have hd1 := fun W (b : Below w.heap.size w W) => refDeg_any v xs W (h.below b) hx0 hn
  have hd2 := fun W (b : Below w.heap.size w W) => refDeg_any u ys W (k.below b) hy0 hn2
  have b1 := Mo.deg_small xs hx0 hn
  have b2 := Mo.deg_small ys hy0 hn2
  have HL := Lib.hid hlex; clear hlex
  have HG := Lib.hid hgrev; clear hgrev
  have HD1 := Lib.hid hd1; clear hd1
  have HD2 := Lib.hid hd2; clear hd2
  by_cases k0 : kind = 0
  · subst k0
    clear hle hx0 hy0 hn h k b1 b2 hn2
    have hfin : Mo.lexC xs ys = Mo.cmpC 0 c xs ys := by simp [Mo.cmpC]
    have HF := Lib.hid hfin; clear hfin
    go_enter Try.func17, Try.ntmps17
    go_wp2_with fail
    refine (HL.out _ ((Below.refl _ _).alloc (Nat.le_refl _) _)).mono ?_
    rintro e w' ⟨rfl, n, rfl⟩
    go_wp2
    go_ret
    exact ⟨by rw [← HF.out]; rfl, below_drewN ((Below.refl _ _).alloc (Nat.le_refl _) _) _⟩
  · by_cases k1 : kind = 1
    · subst k1
      have hfin : Mo.grlexC xs ys = Mo.cmpC 1 c xs ys := by simp [Mo.cmpC]
      have HF := Lib.hid hfin; clear hfin
      clear hle hx0 hy0 hn h k hn2 k0
      obtain ⟨s1, hs1⟩ : ∃ s, Mo.deg xs = s := ⟨_, rfl⟩
      obtain ⟨s2, hs2⟩ : ∃ s, Mo.deg ys = s := ⟨_, rfl⟩
      rw [hs1] at b1
      rw [hs2] at b2
      have S1 := Lib.hid hs1; clear hs1
      have S2 := Lib.hid hs2; clear hs2
      by_cases hd : s1 = s2
      · have hb : (s1 != s2) = false := by simp [hd]
        have hg : Mo.lexC xs ys = Mo.grlexC xs ys := by unfold Mo.grlexC; rw [S1.out, S2.out, if_pos hd]
        have HGG := Lib.hid hg; clear hg
        have HD := Lib.hid hd; clear hd
        go_enter Try.func17, Try.ntmps17
        go_wp2_with fail
        refine (HD1.out _ ((Below.refl _ _).alloc (Nat.le_refl _) _)).mono ?_; rw [S1.out]; rintro e w' ⟨rfl, rfl⟩
        go_wp2_with fail
        refine (HD2.out _ ((Below.refl _ _).alloc (Nat.le_refl _) _)).mono ?_; rw [S2.out]; rintro e w' ⟨rfl, rfl⟩
        go_wp2_with fail
        refine (HL.out _ ((Below.refl _ _).alloc (Nat.le_refl _) _)).mono ?_
        rintro e w' ⟨rfl, n, rfl⟩
        go_wp2
        go_ret
        exact ⟨by rw [← HF.out, ← HGG.out]; rfl, below_drewN ((Below.refl _ _).alloc (Nat.le_refl _) _) _⟩
      · have hb : (s1 != s2) = true := by simp [hd]
        have hg : Mo.sgn (s1 - s2) = Mo.grlexC xs ys := by unfold Mo.grlexC; rw [S1.out, S2.out, if_neg hd]
        have HGG := Lib.hid hg; clear hg hd
        go_enter Try.func17, Try.ntmps17
        go_wp2_with fail
        refine (HD1.out _ ((Below.refl _ _).alloc (Nat.le_refl _) _)).mono ?_; rw [S1.out]; rintro e w' ⟨rfl, rfl⟩
        go_wp2_with fail
        refine (HD2.out _ ((Below.refl _ _).alloc (Nat.le_refl _) _)).mono ?_; rw [S2.out]; rintro e w' ⟨rfl, rfl⟩
        go_wp2_with fail
        refine (HD1.out _ ((Below.refl _ _).alloc (Nat.le_refl _) _)).mono ?_; rw [S1.out]; rintro e w' ⟨rfl, rfl⟩
        go_wp2_with fail
        refine (HD2.out _ ((Below.refl _ _).alloc (Nat.le_refl _) _)).mono ?_; rw [S2.out]; rintro e w' ⟨rfl, rfl⟩
        go_wp2_with fail
        refine (sign_any _ _).mono ?_; rintro e w' ⟨rfl, rfl⟩
        go_wp2
        go_ret
        exact ⟨by rw [← HF.out, ← HGG.out]; rfl, (Below.refl _ _).alloc (Nat.le_refl _) _⟩
    · by_cases k2 : kind = 2
      · subst k2
        have hfin : Mo.grevC xs ys = Mo.cmpC 2 c xs ys := by simp [Mo.cmpC]
        have HF := Lib.hid hfin; clear hfin
        clear hle hx0 hy0 hn h k hn2 k0 k1 b1 b2
        go_enter Try.func17, Try.ntmps17
        go_wp2_with fail
        refine (HG.out _ ((Below.refl _ _).alloc (Nat.le_refl _) _)).mono ?_
        rintro e w' ⟨rfl, n, rfl⟩
        go_wp2
        go_ret
        exact ⟨by rw [← HF.out]; rfl, below_drewN ((Below.refl _ _).alloc (Nat.le_refl _) _) _⟩
      · obtain ⟨V1, hV1, iV1⟩ := slice_take slInt sizeInt h c h0 h1
        obtain ⟨V2, hV2, iV2⟩ := slice_drop slInt sizeInt h c h0 h1
        obtain ⟨U1, hU1, iU1⟩ := slice_take slInt sizeInt k c h0 (by omega)
        obtain ⟨U2, hU2, iU2⟩ := slice_drop slInt sizeInt k c h0 (by omega)
        have c1 := fun W (b : Below w.heap.size w W) => grev_any V1 U1 _ _ W (iV1.below b) (iU1.below b) (by simp [hle]) (by simp; omega) (fun x hx => hx0 x (List.mem_of_mem_take hx)) (fun x hx => hy0 x (List.mem_of_mem_take hx))
        have c2 := fun W (b : Below w.heap.size w W) => grev_any V2 U2 _ _ W (iV2.below b) (iU2.below b) (by simp [hle]) (by simp; omega) (fun x hx => hx0 x (List.mem_of_mem_drop hx)) (fun x hx => hy0 x (List.mem_of_mem_drop hx))
        have C1 := Lib.hid c1; clear c1
        have C2 := Lib.hid c2; clear c2
        have e0 : (kind == 0) = false := by simp [k0]
        have e1 : (kind == 1) = false := by simp [k1]
        have e2 : (kind == 2) = false := by simp [k2]
        obtain ⟨q, hq⟩ : ∃ r, Mo.grevC (xs.take c.toNat) (ys.take c.toNat) = r := ⟨_, rfl⟩
        obtain ⟨r, hr⟩ : ∃ r, Mo.grevC (xs.drop c.toNat) (ys.drop c.toNat) = r := ⟨_, rfl⟩
        have hfin : (if q = 0 then r else q) = Mo.cmpC kind c xs ys := by simp only [Mo.cmpC, if_neg k0, if_neg k1, if_neg k2, hq, hr]
        have HF := Lib.hid hfin; clear hfin
        have HQ := Lib.hid hq; clear hq
        have HR := Lib.hid hr; clear hr
        clear hle hx0 hy0 hn h k hn2 k0 k1 k2 b1 b2
        by_cases hq0 : q = 0
        · subst hq0
          have hfin : r = Mo.cmpC kind c xs ys := by rw [← HF.out, if_pos rfl]
          have HH := Lib.hid hfin; clear hfin HF
          go_enter Try.func17, Try.ntmps17
          go_wp2
          go_quiet ((go_at_call 41; exact quiet_dr (C1.out _ (below_drewN ((Below.refl _ _).alloc (Nat.le_refl _) _) _))))
          rw [HQ.out]
          go_wp2
          go_quiet ((go_at_call 41; exact quiet_dr' (C2.out _ (below_drewN ((Below.refl _ _).alloc (Nat.le_refl _) _) _))))
          go_wp2
          go_ret
          exact ⟨by rw [← HH.out, ← HR.out]; rfl, below_drewN (below_drewN ((Below.refl _ _).alloc (Nat.le_refl _) _) _) _⟩
        · have hb : (q != 0) = true := by simp [hq0]
          have hfin : q = Mo.cmpC kind c xs ys := by rw [← HF.out, if_neg hq0]
          have HH := Lib.hid hfin; clear hfin hq0 HF
          go_enter Try.func17, Try.ntmps17
          go_wp2
          go_quiet ((go_at_call 41; exact quiet_dr (C1.out _ (below_drewN ((Below.refl _ _).alloc (Nat.le_refl _) _) _))))
          rw [HQ.out]
          go_wp2
          go_ret
          exact ⟨by rw [← HH.out]; rfl, below_drewN ((Below.refl _ _).alloc (Nat.le_refl _) _) _⟩

end Go.Proofs.Ytaidopbndlhpgaa
