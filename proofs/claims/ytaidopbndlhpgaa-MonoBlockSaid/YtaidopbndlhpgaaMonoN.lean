/-
  The walks of the small functions on exponent lists, fourteenth part: orders; quotients by the reference; the example.
-/
import Derived.Test.YtaidopbndlhpgaaMonoM
import Derived.Test.YtaidopbndlhpgaaMonoPlain3
namespace Go.Proofs.Ytaidopbndlhpgaa
open Go.RowKit

set_option maxHeartbeats 1000000 in
theorem refOrder_any (n kind c : Int) (w : World) :
    Calls Try.prog 14 #[.int .i64 n, .agg #[.int .i64 kind, .int .i64 c]] w fun e w' => e = .returned (.bool (Mo.orderB n kind c)) ∧ Below w.heap.size w w' := by
  by_cases h1 : n < 0
  · have hv : Mo.orderB n kind c = false := Mo.orderB_n (by omega)
    have H := Lib.hid hv; clear hv
    go_enter Try.func14, Try.ntmps14
    go_wp2
    go_ret
    exact ⟨by rw [H.out]; rfl, (Below.refl _ _).alloc (Nat.le_refl _) _⟩
  by_cases h2 : 6 < n
  · have hv : Mo.orderB n kind c = false := Mo.orderB_n (by omega)
    have H := Lib.hid hv; clear hv
    go_enter Try.func14, Try.ntmps14
    go_wp2
    go_ret
    exact ⟨by rw [H.out]; rfl, (Below.refl _ _).alloc (Nat.le_refl _) _⟩
  have hn : 0 ≤ n ∧ n ≤ 6 := by omega
  by_cases hk : kind = 3
  · subst hk
    have hv := Mo.orderB_3 c hn
    by_cases h3 : 0 ≤ c
    · by_cases h4 : c ≤ n
      · have hb := hv.trans (show _ = true by simp [h3, h4])
        have H := Lib.hid hb; clear hb hv hn
        go_enter Try.func14, Try.ntmps14
        go_wp2
        go_ret
        exact ⟨by rw [H.out]; rfl, (Below.refl _ _).alloc (Nat.le_refl _) _⟩
      · have hb := hv.trans (show _ = false by simp [h4])
        have H := Lib.hid hb; clear hb hv hn
        go_enter Try.func14, Try.ntmps14
        go_wp2
        go_ret
        exact ⟨by rw [H.out]; rfl, (Below.refl _ _).alloc (Nat.le_refl _) _⟩
    · have hb := hv.trans (show _ = false by simp [h3])
      have H := Lib.hid hb; clear hb hv hn
      go_enter Try.func14, Try.ntmps14
      go_wp2
      go_ret
      exact ⟨by rw [H.out]; rfl, (Below.refl _ _).alloc (Nat.le_refl _) _⟩
  have hv := Mo.orderB_k c hn hk
  have hk3 : (kind == 3) = false := by simp [hk]
  by_cases h3 : 0 ≤ kind
  · by_cases h4 : kind ≤ 2
    · by_cases h5 : c = 0
      · subst h5
        have hb := hv.trans (show _ = true by simp [h3, h4])
        have H := Lib.hid hb; clear hb hv hn hk
        go_enter Try.func14, Try.ntmps14
        go_wp2
        go_ret
        exact ⟨by rw [H.out]; rfl, (Below.refl _ _).alloc (Nat.le_refl _) _⟩
      · have h5' : (c == 0) = false := by simp [h5]
        have hb := hv.trans (show _ = false by simp [h5])
        have H := Lib.hid hb; clear hb hv hn hk h5
        go_enter Try.func14, Try.ntmps14
        go_wp2
        go_ret
        exact ⟨by rw [H.out]; rfl, (Below.refl _ _).alloc (Nat.le_refl _) _⟩
    · have hb := hv.trans (show _ = false by simp [h4])
      have H := Lib.hid hb; clear hb hv hn hk
      go_enter Try.func14, Try.ntmps14
      go_wp2
      go_ret
      exact ⟨by rw [H.out]; rfl, (Below.refl _ _).alloc (Nat.le_refl _) _⟩
  · have hb := hv.trans (show _ = false by simp [h3])
    have H := Lib.hid hb; clear hb hv hn hk
    go_enter Try.func14, Try.ntmps14
    go_wp2
    go_ret
    exact ⟨by rw [H.out]; rfl, (Below.refl _ _).alloc (Nat.le_refl _) _⟩

set_option maxHeartbeats 2000000 in
theorem order_any (n kind c : Int) (w : World) :
    Calls Try.prog 13 #[.int .i64 n, .agg #[.int .i64 kind, .int .i64 c]] w fun e w' => e = .returned (.bool (Mo.orderB n kind c)) ∧ Below w.heap.size w w' := by
  by_cases hk : kind = 3
  · subst hk
    by_cases hn : 0 ≤ n ∧ n ≤ 6
    · have hv := Mo.orderB_3 c hn
      have hvv : (decide (0 ≤ n) && decide (n ≤ 6)) = true := by simp [hn]
      have HV := Lib.hid hvv; clear hvv hn
      by_cases h3 : 0 ≤ c
      · have hb := hv.trans (show _ = decide (c ≤ n) by simp [h3])
        have H := Lib.hid hb; clear hb hv
        go_enter Try.func13, Try.ntmps13
        go_wp2_with (go_at_call 31; refine (vars_any _ _).mono ?_; rw [HV.out]; rintro e w' ⟨rfl, rfl⟩)
        go_ret
        exact ⟨by rw [H.out]; rfl, (Below.refl _ _).alloc (Nat.le_refl _) _⟩
      · have hb := hv.trans (show _ = false by simp [h3])
        have H := Lib.hid hb; clear hb hv
        go_enter Try.func13, Try.ntmps13
        go_wp2_with (go_at_call 31; refine (vars_any _ _).mono ?_; rw [HV.out]; rintro e w' ⟨rfl, rfl⟩)
        go_ret
        exact ⟨by rw [H.out]; rfl, (Below.refl _ _).alloc (Nat.le_refl _) _⟩
    · have hb : Mo.orderB n 3 c = false := Mo.orderB_n hn
      have hvv : (decide (0 ≤ n) && decide (n ≤ 6)) = false := by simp; omega
      have HV := Lib.hid hvv; clear hvv hn
      have H := Lib.hid hb; clear hb
      go_enter Try.func13, Try.ntmps13
      go_wp2_with (go_at_call 31; refine (vars_any _ _).mono ?_; rw [HV.out]; rintro e w' ⟨rfl, rfl⟩)
      go_ret
      exact ⟨by rw [H.out]; rfl, (Below.refl _ _).alloc (Nat.le_refl _) _⟩
  · have hk3 : (kind == 3) = false := by simp [hk]
    by_cases hin : 0 ≤ kind ∧ kind ≤ 2
    · have hz : kind = 0 ∨ kind = 1 ∨ kind = 2 := by omega
      clear hk3
      by_cases hn : 0 ≤ n ∧ n ≤ 6
      · have hv := Mo.orderB_k c hn hk
        have hvv : (decide (0 ≤ n) && decide (n ≤ 6)) = true := by simp [hn]
        have HV := Lib.hid hvv; clear hvv hn hk
        by_cases h5 : c = 0
        · subst h5
          have hb := hv.trans (show _ = true by simp [hin])
          have H := Lib.hid hb; clear hb hv hin
          rcases hz with rfl | rfl | rfl
          · go_enter Try.func13, Try.ntmps13
            go_wp2_with (go_at_call 31; refine (vars_any _ _).mono ?_; rw [HV.out]; rintro e w' ⟨rfl, rfl⟩)
            go_ret
            exact ⟨by rw [H.out]; rfl, (Below.refl _ _).alloc (Nat.le_refl _) _⟩
          · go_enter Try.func13, Try.ntmps13
            go_wp2_with (go_at_call 31; refine (vars_any _ _).mono ?_; rw [HV.out]; rintro e w' ⟨rfl, rfl⟩)
            go_ret
            exact ⟨by rw [H.out]; rfl, (Below.refl _ _).alloc (Nat.le_refl _) _⟩
          · go_enter Try.func13, Try.ntmps13
            go_wp2_with (go_at_call 31; refine (vars_any _ _).mono ?_; rw [HV.out]; rintro e w' ⟨rfl, rfl⟩)
            go_ret
            exact ⟨by rw [H.out]; rfl, (Below.refl _ _).alloc (Nat.le_refl _) _⟩
        · have h5' : (c == 0) = false := by simp [h5]
          have hb := hv.trans (show _ = false by simp [h5])
          have H := Lib.hid hb; clear hb hv hin h5
          rcases hz with rfl | rfl | rfl
          · go_enter Try.func13, Try.ntmps13
            go_wp2_with (go_at_call 31; refine (vars_any _ _).mono ?_; rw [HV.out]; rintro e w' ⟨rfl, rfl⟩)
            go_ret
            exact ⟨by rw [H.out]; rfl, (Below.refl _ _).alloc (Nat.le_refl _) _⟩
          · go_enter Try.func13, Try.ntmps13
            go_wp2_with (go_at_call 31; refine (vars_any _ _).mono ?_; rw [HV.out]; rintro e w' ⟨rfl, rfl⟩)
            go_ret
            exact ⟨by rw [H.out]; rfl, (Below.refl _ _).alloc (Nat.le_refl _) _⟩
          · go_enter Try.func13, Try.ntmps13
            go_wp2_with (go_at_call 31; refine (vars_any _ _).mono ?_; rw [HV.out]; rintro e w' ⟨rfl, rfl⟩)
            go_ret
            exact ⟨by rw [H.out]; rfl, (Below.refl _ _).alloc (Nat.le_refl _) _⟩
      · have hb : Mo.orderB n kind c = false := Mo.orderB_n hn
        have hvv : (decide (0 ≤ n) && decide (n ≤ 6)) = false := by simp; omega
        have HV := Lib.hid hvv; clear hvv hn hk hin
        have H := Lib.hid hb; clear hb
        rcases hz with rfl | rfl | rfl
        · go_enter Try.func13, Try.ntmps13
          go_wp2_with (go_at_call 31; refine (vars_any _ _).mono ?_; rw [HV.out]; rintro e w' ⟨rfl, rfl⟩)
          go_ret
          exact ⟨by rw [H.out]; rfl, (Below.refl _ _).alloc (Nat.le_refl _) _⟩
        · go_enter Try.func13, Try.ntmps13
          go_wp2_with (go_at_call 31; refine (vars_any _ _).mono ?_; rw [HV.out]; rintro e w' ⟨rfl, rfl⟩)
          go_ret
          exact ⟨by rw [H.out]; rfl, (Below.refl _ _).alloc (Nat.le_refl _) _⟩
        · go_enter Try.func13, Try.ntmps13
          go_wp2_with (go_at_call 31; refine (vars_any _ _).mono ?_; rw [HV.out]; rintro e w' ⟨rfl, rfl⟩)
          go_ret
          exact ⟨by rw [H.out]; rfl, (Below.refl _ _).alloc (Nat.le_refl _) _⟩
    · have e0 : (kind == 0) = false := by simp; omega
      have e1 : (kind == 1) = false := by simp; omega
      have e2 : (kind == 2) = false := by simp; omega
      have hb : Mo.orderB n kind c = false := Mo.orderB_out hk hin
      have H := Lib.hid hb; clear hb hin hk
      go_enter Try.func13, Try.ntmps13
      go_wp2
      go_ret
      exact ⟨by rw [H.out]; rfl, (Below.refl _ _).alloc (Nat.le_refl _) _⟩

set_option maxRecDepth 100000 in
set_option maxHeartbeats 2000000 in
theorem refDiv_any (v u : Value) (xs ys : List Int) (w : World) (h : Ints w v xs) (k0 : Ints w u ys) (hle : xs.length = ys.length) (hx0 : ∀ x ∈ xs, 0 ≤ x ∧ x ≤ 1000) (hy0 : ∀ x ∈ ys, 0 ≤ x ∧ x ≤ 1000) (hn : xs.length ≤ 1000) :
    Calls Try.prog 24 #[v, u] w fun e w' => ∃ r, e = .returned (.tuple #[r, .bool (Mo.dvd ys xs)]) ∧ OwnI w' w.heap.size r (Mo.divL xs ys) ∧ Below w.heap.size w w' := by
  have hd := refDivides_any u v ys xs w k0 h hle.symm
  obtain ⟨a, cap, rfl, hcap, hmax, hc⟩ := h
  obtain ⟨a2, cap2, rfl, hcap2, hmax2, hc2⟩ := k0
  have HLE := Lib.hid hle; clear hle
  have HX0 := Lib.hid hx0; clear hx0
  have HY0 := Lib.hid hy0; clear hy0
  cases hdv : Mo.dvd ys xs
  · rw [hdv] at hd
    have HD := Lib.hid hd; clear hd hc hc2
    have hl : Mo.divL xs ys = [] := Mo.divL_no hdv
    have HL := Lib.hid hl; clear hl hdv
    go_enter Try.func24, Try.ntmps24
    go_wp2_with fail
    refine HD.out.mono ?_
    rintro e w1 ⟨rfl, n, rfl⟩
    go_wp2
    go_ret2
    exact ⟨_, rfl, by rw [HL.out]; exact World.ownsRow_nil _ _ _ _, below_drewN (Below.refl _ _) _⟩
  · rw [hdv] at hd
    have HD := Lib.hid hd; clear hd
    have hl : Mo.divL xs ys = List.zipWith (· - ·) xs ys := Mo.divL_yes hdv
    have HL := Lib.hid hl; clear hl hdv
    obtain ⟨zz, hzz⟩ : ∃ zz, List.zipWith (· - ·) xs ys = zz := ⟨_, rfl⟩
    have hzl : zz.length = xs.length := by rw [← hzz]; simp [HLE.out]
    have hzs : ∀ k, k < xs.length → zz.take (k + 1) = zz.take k ++ [xs.getD k 0 - ys.getD k 0] := fun k hk => by rw [← hzz]; exact Mo.zipWith_take_succ _ xs ys k hk (by rw [← HLE.out]; exact hk)
    have HZL := Lib.hid hzl; clear hzl
    have HZS := Lib.hid hzs; clear hzs
    have HZZ := Lib.hid hzz; clear hzz
    go_enter Try.func24, Try.ntmps24
    go_wp2_with fail
    refine HD.out.mono ?_
    rintro e w1 ⟨rfl, n, rfl⟩
    go_wp2
    go_loopw [6, 7] (fun v i wr => ∃ k : Nat, k ≤ xs.length ∧ i = .int .i64 k ∧ wr.ownsRow w.heap.size 3 1 v k ((zz.take k).map (Value.int .i64)) ∧ Below w.heap.size w wr) (fun _ i _ => xs.length - (intOf i).toNat)
    case atStart => exact ⟨0, Nat.zero_le _, rfl, World.ownsRow_nil _ _ _ _, below_drewN (Below.refl _ _) _⟩
    case round =>
      obtain ⟨k, hk, rfl, hown, hB⟩ := hrel
      by_cases hlt : k < xs.length
      · have hlt2 : k < ys.length := by rw [← HLE.out]; exact hlt
        obtain ⟨b, off, rfl, hcell⟩ := hc (by omega)
        obtain ⟨b2, off2, rfl, hcell2⟩ := hc2 (by omega)
        have bx := Mo.getD_bound xs 1000 HX0.out k hlt
        have by' := Mo.getD_bound ys 1000 HY0.out k hlt2
        have hst := HZS.out k hlt
        obtain ⟨x, hx⟩ : ∃ x, xs.getD k 0 = x := ⟨_, rfl⟩
        obtain ⟨y, hy⟩ : ∃ y, ys.getD k 0 = y := ⟨_, rfl⟩
        have hck0 := hcell k hlt
        have hck20 := hcell2 k hlt2
        have lb := World.block_lt_of_cell? w _ hck0
        have lb2 := World.block_lt_of_cell? w _ hck20
        have hck : wr.cell? ⟨b, off + k, none⟩ = _ := (hB.cell (p := ⟨b, off + k, none⟩) lb).trans hck0
        have hck2 : wr.cell? ⟨b2, off2 + k, none⟩ = _ := (hB.cell (p := ⟨b2, off2 + k, none⟩) lb2).trans hck20
        rw [hx] at hck bx hst
        rw [hy] at hck2 by' hst
        have HS := Lib.hid hst
        have hsz := hB.size
        clear hcell hc hcell2 hc2 hx hy hst hck0 hck20
        have hk0' : (0 : Int) ≤ (k : Int) := Int.natCast_nonneg _
        have hk1 : (k : Int) < (xs.length : Int) := by omega
        have hk2 : (k : Int) < (ys.length : Int) := by omega
        have na : u6.ownBlock ≠ some b := fun e => by have := (World.ownsRow.lt (w := wr) hown b e).1; simp at lb; omega
        have na2 : u6.ownBlock ≠ some b2 := fun e => by have := (World.ownsRow.lt (w := wr) hown b2 e).1; simp at lb2; omega
        have lq := World.block_lt_of_cell? wr _ hck
        have lq2 := World.block_lt_of_cell? wr _ hck2
        have hw : IntKind.i64.wrap (x - y) = x - y := IntWalk.i64_in _ (by omega)
        obtain ⟨i0, hi, hz0, hz1, hz2⟩ := info_parts info_int
        go_wp2
        go_region_held3 (fun w' => w'.cell? ⟨b, off + k, none⟩ = some (.int .i64 x) ∧ w'.cell? ⟨b2, off2 + k, none⟩ = some (.int .i64 y))
          (first
            | go_keep
            | (go_split_ands
               refine ⟨?_, ?_⟩
               · (rw [hgrow.cell_far _ (by simp at lq ⊢; omega) (Ne.symm na)]; assumption)
               · (rw [hgrow.cell_far _ (by simp at lq2 ⊢; omega) (Ne.symm na2)]; assumption)))
          ((refine step_append_lies _ (by rfl) _ _ _ (by rfl) w.heap.size 3 i0 _ 1 8 Try.underlying22 hi hz0 hz1 hz2 rfl (by omega) u6 k ((zz.take k).map (Value.int .i64)) (by rfl) ((hown.alloc _).drew)
              ⟨wr.heap.size, 0, none⟩ 1 1 [.int .i64 (x - y)] (by rfl) (by rfl) (World.news_of_block (cs := #[.int .i64 (x - y)]) (t := 3) (fr := (0, 0)) (heap_alloc_new wr _)) (by simp [Value.oneCell'])
              (by omega) (by unfold maxLen; omega) (by omega) (by simp; omega) (wr.heap.size + 1) (by simp) ?_; intro gg cap w1 hown1 hgrow hat hlt))
        go_wp2
        go_roundw
        case rel => exact ⟨k + 1, by omega, by go_num, by rw [HS.out, List.map_append]; exact hown1, (hB.alloc hsz _).drew.grown hgrow (by simp; omega) (fun j e => (World.ownsRow.lt (w := wr) hown j e).1)⟩
        case measure => simp [intOf]; omega
      · have htk : zz.take k = zz := List.take_of_length_le (by rw [HZL.out]; omega)
        rw [htk] at hown
        have hk2 : k = zz.length := by rw [HZL.out]; omega
        have HK := Lib.hid hk2
        clear htk hk2
        go_wp2
        go_ret2
        exact ⟨_, rfl, by rw [HL.out, HZZ.out]; unfold OwnI; rw [← HK.out]; exact hown, hB⟩


end Go.Proofs.Ytaidopbndlhpgaa
