/-
  The walks of the small functions on exponent lists, eleventh part.
-/
import Derived.Test.YtaidopbndlhpgaaMonoJ
namespace Go.Proofs.Ytaidopbndlhpgaa
open Go.RowKit

set_option maxHeartbeats 2000000 in
theorem refLcm_any (v u : Value) (xs ys : List Int) (w : World) (h : Ints w v xs) (k0 : Ints w u ys) (hle : xs.length = ys.length) (hx0 : ∀ x ∈ xs, 0 ≤ x ∧ x ≤ 1000) (hy0 : ∀ x ∈ ys, 0 ≤ x ∧ x ≤ 1000) (hn : xs.length ≤ 1000) :
    Calls Try.prog 27 #[v, u] w fun e w' => ∃ r, e = .returned r ∧ OwnI w' w.heap.size r (List.zipWith max xs ys) ∧ Below w.heap.size w w' := by
  obtain ⟨a, cap, rfl, hcap, hmax, hc⟩ := h
  obtain ⟨a2, cap2, rfl, hcap2, hmax2, hc2⟩ := k0
  have HLE := Lib.hid hle; clear hle
  have HX0 := Lib.hid hx0; clear hx0
  have HY0 := Lib.hid hy0; clear hy0
  obtain ⟨zz, hzz⟩ : ∃ zz, List.zipWith max xs ys = zz := ⟨_, rfl⟩
  have hzl : zz.length = xs.length := by rw [← hzz]; simp [HLE.out]
  have hzs : ∀ k, k < xs.length → zz.take (k + 1) = zz.take k ++ [max (xs.getD k 0) (ys.getD k 0)] := fun k hk => by rw [← hzz]; exact Mo.zipWith_take_succ _ xs ys k hk (by rw [← HLE.out]; exact hk)
  have HZL := Lib.hid hzl; clear hzl
  have HZS := Lib.hid hzs; clear hzs
  have HZZ := Lib.hid hzz; clear hzz
  go_enter Try.func27, Try.ntmps27
  go_wp2
  go_loopw [5, 6] (fun v i wr => ∃ k : Nat, k ≤ xs.length ∧ i = .int .i64 k ∧ wr.ownsRow w.heap.size 3 1 v k ((zz.take k).map (Value.int .i64)) ∧ Below w.heap.size w wr) (fun _ i _ => xs.length - (intOf i).toNat)
  case atStart => exact ⟨0, Nat.zero_le _, rfl, World.ownsRow_nil _ _ _ _, Below.refl _ _⟩
  case round =>
    obtain ⟨k, hk, rfl, hown, hB⟩ := hrel
    by_cases hlt : k < xs.length
    · have hlt2 : k < ys.length := by rw [← HLE.out]; exact hlt
      obtain ⟨b, off, rfl, hcell⟩ := hc (by omega)
      obtain ⟨b2, off2, rfl, hcell2⟩ := hc2 (by omega)
      have bx := Mo.getD_bound xs 1000 HX0.out k hlt
      have by' := Mo.getD_bound ys 1000 HY0.out k hlt2
      have hst := HZS.out k hlt
      obtain ⟨x, hx⟩ : ∃ x, xs.getD k 0 = x := ⟨_, rfl⟩
      obtain ⟨y, hy⟩ : ∃ y, ys.getD k 0 = y := ⟨_, rfl⟩
      have hck0 := hcell k hlt
      have hck20 := hcell2 k hlt2
      have lb := World.block_lt_of_cell? w _ hck0
      have lb2 := World.block_lt_of_cell? w _ hck20
      have hck : wr.cell? ⟨b, off + k, none⟩ = _ := (hB.cell (p := ⟨b, off + k, none⟩) lb).trans hck0
      have hck2 : wr.cell? ⟨b2, off2 + k, none⟩ = _ := (hB.cell (p := ⟨b2, off2 + k, none⟩) lb2).trans hck20
      rw [hx] at hck bx hst
      rw [hy] at hck2 by' hst
      have HS := Lib.hid hst
      have hsz := hB.size
      clear hcell hc hcell2 hc2 hx hy hst hck0 hck20
      have hk0' : (0 : Int) ≤ (k : Int) := Int.natCast_nonneg _
      have hk1 : (k : Int) < (xs.length : Int) := by omega
      have hk2 : (k : Int) < (ys.length : Int) := by omega
      by_cases hxy : y < x
      · have hz : max x y = x := by omega
        have hs2 : zz.take (k + 1) = zz.take k ++ [x] := by rw [HS.out, hz]
        have HS2 := Lib.hid hs2
        clear hs2 hz HS
        go_wp2
        go_quiet (fail)
        generalize hwq : wr.drewN nq = wq
        have hqc : wq.cell? ⟨b, off + k, none⟩ = some (.int .i64 x) := by rw [← hwq]; exact hck
        have hqc2 : wq.cell? ⟨b2, off2 + k, none⟩ = some (.int .i64 y) := by rw [← hwq]; exact hck2
        have hqo : wq.ownsRow w.heap.size 3 1 u5 k ((zz.take k).map (Value.int .i64)) := by rw [← hwq]; exact hown
        have hqB : Below w.heap.size w wq := by rw [← hwq]; exact below_drewN hB _
        have hqs := hqB.size
        clear hwq hck hck2 hown hB hsz
        go_wp2_with (at_builtin; refine wpList_app_int rfl _ _ rfl w.heap.size x u5 k (zz.take k) rfl (World.ownsRow.alloc (w := wq) hqo _) wq.heap.size rfl (World.cell?_alloc_new _ _ _ _) (by omega) (Nat.le_trans hqs (by rw [World.size_alloc]; omega)) ?_; intro g cap w1 hown1 hB1)
        go_roundw
        case rel => exact ⟨k + 1, by omega, by go_num, by rw [HS2.out]; exact hown1, (hqB.alloc hqs _).trans hB1⟩
        case measure => simp [intOf]; omega
      · have hz : max x y = y := by omega
        have hs2 : zz.take (k + 1) = zz.take k ++ [y] := by rw [HS.out, hz]
        have HS2 := Lib.hid hs2
        clear hs2 hz HS
        go_wp2
        go_quiet (fail)
        generalize hwq : wr.drewN nq = wq
        have hqc : wq.cell? ⟨b, off + k, none⟩ = some (.int .i64 x) := by rw [← hwq]; exact hck
        have hqc2 : wq.cell? ⟨b2, off2 + k, none⟩ = some (.int .i64 y) := by rw [← hwq]; exact hck2
        have hqo : wq.ownsRow w.heap.size 3 1 u5 k ((zz.take k).map (Value.int .i64)) := by rw [← hwq]; exact hown
        have hqB : Below w.heap.size w wq := by rw [← hwq]; exact below_drewN hB _
        have hqs := hqB.size
        clear hwq hck hck2 hown hB hsz
        go_wp2_with (at_builtin; refine wpList_app_int rfl _ _ rfl w.heap.size y u5 k (zz.take k) rfl (World.ownsRow.alloc (w := wq) hqo _) wq.heap.size rfl (World.cell?_alloc_new _ _ _ _) (by omega) (Nat.le_trans hqs (by rw [World.size_alloc]; omega)) ?_; intro g cap w1 hown1 hB1)
        go_roundw
        case rel => exact ⟨k + 1, by omega, by go_num, by rw [HS2.out]; exact hown1, (hqB.alloc hqs _).trans hB1⟩
        case measure => simp [intOf]; omega
    · have htk : zz.take k = zz := List.take_of_length_le (by rw [HZL.out]; omega)
      rw [htk] at hown
      have hk2 : k = zz.length := by rw [HZL.out]; omega
      have HK := Lib.hid hk2
      clear htk hk2
      go_wp2
      go_ret
      exact ⟨_, rfl, by rw [HZZ.out]; unfold OwnI; rw [← HK.out]; exact hown, hB⟩

set_option maxHeartbeats 2000000 in
theorem refGcd_any (v u : Value) (xs ys : List Int) (w : World) (h : Ints w v xs) (k0 : Ints w u ys) (hle : xs.length = ys.length) (hx0 : ∀ x ∈ xs, 0 ≤ x ∧ x ≤ 1000) (hy0 : ∀ x ∈ ys, 0 ≤ x ∧ x ≤ 1000) (hn : xs.length ≤ 1000) :
    Calls Try.prog 29 #[v, u] w fun e w' => ∃ r, e = .returned r ∧ OwnI w' w.heap.size r (List.zipWith min xs ys) ∧ Below w.heap.size w w' := by
  obtain ⟨a, cap, rfl, hcap, hmax, hc⟩ := h
  obtain ⟨a2, cap2, rfl, hcap2, hmax2, hc2⟩ := k0
  have HLE := Lib.hid hle; clear hle
  have HX0 := Lib.hid hx0; clear hx0
  have HY0 := Lib.hid hy0; clear hy0
  obtain ⟨zz, hzz⟩ : ∃ zz, List.zipWith min xs ys = zz := ⟨_, rfl⟩
  have hzl : zz.length = xs.length := by rw [← hzz]; simp [HLE.out]
  have hzs : ∀ k, k < xs.length → zz.take (k + 1) = zz.take k ++ [min (xs.getD k 0) (ys.getD k 0)] := fun k hk => by rw [← hzz]; exact Mo.zipWith_take_succ _ xs ys k hk (by rw [← HLE.out]; exact hk)
  have HZL := Lib.hid hzl; clear hzl
  have HZS := Lib.hid hzs; clear hzs
  have HZZ := Lib.hid hzz; clear hzz
  go_enter Try.func29, Try.ntmps29
  go_wp2
  go_loopw [5, 6] (fun v i wr => ∃ k : Nat, k ≤ xs.length ∧ i = .int .i64 k ∧ wr.ownsRow w.heap.size 3 1 v k ((zz.take k).map (Value.int .i64)) ∧ Below w.heap.size w wr) (fun _ i _ => xs.length - (intOf i).toNat)
  case atStart => exact ⟨0, Nat.zero_le _, rfl, World.ownsRow_nil _ _ _ _, Below.refl _ _⟩
  case round =>
    obtain ⟨k, hk, rfl, hown, hB⟩ := hrel
    by_cases hlt : k < xs.length
    · have hlt2 : k < ys.length := by rw [← HLE.out]; exact hlt
      obtain ⟨b, off, rfl, hcell⟩ := hc (by omega)
      obtain ⟨b2, off2, rfl, hcell2⟩ := hc2 (by omega)
      have bx := Mo.getD_bound xs 1000 HX0.out k hlt
      have by' := Mo.getD_bound ys 1000 HY0.out k hlt2
      have hst := HZS.out k hlt
      obtain ⟨x, hx⟩ : ∃ x, xs.getD k 0 = x := ⟨_, rfl⟩
      obtain ⟨y, hy⟩ : ∃ y, ys.getD k 0 = y := ⟨_, rfl⟩
      have hck0 := hcell k hlt
      have hck20 := hcell2 k hlt2
      have lb := World.block_lt_of_cell? w _ hck0
      have lb2 := World.block_lt_of_cell? w _ hck20
      have hck : wr.cell? ⟨b, off + k, none⟩ = _ := (hB.cell (p := ⟨b, off + k, none⟩) lb).trans hck0
      have hck2 : wr.cell? ⟨b2, off2 + k, none⟩ = _ := (hB.cell (p := ⟨b2, off2 + k, none⟩) lb2).trans hck20
      rw [hx] at hck bx hst
      rw [hy] at hck2 by' hst
      have HS := Lib.hid hst
      have hsz := hB.size
      clear hcell hc hcell2 hc2 hx hy hst hck0 hck20
      have hk0' : (0 : Int) ≤ (k : Int) := Int.natCast_nonneg _
      have hk1 : (k : Int) < (xs.length : Int) := by omega
      have hk2 : (k : Int) < (ys.length : Int) := by omega
      by_cases hxy : x < y
      · have hz : min x y = x := by omega
        have hs2 : zz.take (k + 1) = zz.take k ++ [x] := by rw [HS.out, hz]
        have HS2 := Lib.hid hs2
        clear hs2 hz HS
        go_wp2
        go_quiet (fail)
        generalize hwq : wr.drewN nq = wq
        have hqc : wq.cell? ⟨b, off + k, none⟩ = some (.int .i64 x) := by rw [← hwq]; exact hck
        have hqc2 : wq.cell? ⟨b2, off2 + k, none⟩ = some (.int .i64 y) := by rw [← hwq]; exact hck2
        have hqo : wq.ownsRow w.heap.size 3 1 u5 k ((zz.take k).map (Value.int .i64)) := by rw [← hwq]; exact hown
        have hqB : Below w.heap.size w wq := by rw [← hwq]; exact below_drewN hB _
        have hqs := hqB.size
        clear hwq hck hck2 hown hB hsz
        go_wp2_with (at_builtin; refine wpList_app_int rfl _ _ rfl w.heap.size x u5 k (zz.take k) rfl (World.ownsRow.alloc (w := wq) hqo _) wq.heap.size rfl (World.cell?_alloc_new _ _ _ _) (by omega) (Nat.le_trans hqs (by rw [World.size_alloc]; omega)) ?_; intro g cap w1 hown1 hB1)
        go_roundw
        case rel => exact ⟨k + 1, by omega, by go_num, by rw [HS2.out]; exact hown1, (hqB.alloc hqs _).trans hB1⟩
        case measure => simp [intOf]; omega
      · have hz : min x y = y := by omega
        have hs2 : zz.take (k + 1) = zz.take k ++ [y] := by rw [HS.out, hz]
        have HS2 := Lib.hid hs2
        clear hs2 hz HS
        go_wp2
        go_quiet (fail)
        generalize hwq : wr.drewN nq = wq
        have hqc : wq.cell? ⟨b, off + k, none⟩ = some (.int .i64 x) := by rw [← hwq]; exact hck
        have hqc2 : wq.cell? ⟨b2, off2 + k, none⟩ = some (.int .i64 y) := by rw [← hwq]; exact hck2
        have hqo : wq.ownsRow w.heap.size 3 1 u5 k ((zz.take k).map (Value.int .i64)) := by rw [← hwq]; exact hown
        have hqB : Below w.heap.size w wq := by rw [← hwq]; exact below_drewN hB _
        have hqs := hqB.size
        clear hwq hck hck2 hown hB hsz
        go_wp2_with (at_builtin; refine wpList_app_int rfl _ _ rfl w.heap.size y u5 k (zz.take k) rfl (World.ownsRow.alloc (w := wq) hqo _) wq.heap.size rfl (World.cell?_alloc_new _ _ _ _) (by omega) (Nat.le_trans hqs (by rw [World.size_alloc]; omega)) ?_; intro g cap w1 hown1 hB1)
        go_roundw
        case rel => exact ⟨k + 1, by omega, by go_num, by rw [HS2.out]; exact hown1, (hqB.alloc hqs _).trans hB1⟩
        case measure => simp [intOf]; omega
    · have htk : zz.take k = zz := List.take_of_length_le (by rw [HZL.out]; omega)
      rw [htk] at hown
      have hk2 : k = zz.length := by rw [HZL.out]; omega
      have HK := Lib.hid hk2
      clear htk hk2
      go_wp2
      go_ret
      exact ⟨_, rfl, by rw [HZZ.out]; unfold OwnI; rw [← HK.out]; exact hown, hB⟩


end Go.Proofs.Ytaidopbndlhpgaa
