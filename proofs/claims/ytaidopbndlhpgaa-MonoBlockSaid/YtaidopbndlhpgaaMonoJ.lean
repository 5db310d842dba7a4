/-
  The walks of the small functions on exponent lists, tenth part: products, quotients by the reference (they append).
-/
import Derived.Test.YtaidopbndlhpgaaMonoI
import Derived.Deep.RegionHeld3
import Derived.Deep.AppendLies
namespace Go.Proofs.Ytaidopbndlhpgaa
open Go.RowKit

theorem news_one {W : World} {B : Nat} {c : Value} (h : W.cell? ⟨B, 0, none⟩ = some c) : ∀ j u, [c][j]? = some u → W.cell? ((⟨B, 0, none⟩ : Addr).add j) = some u := by
  intro j u hj
  match j, hj with
  | 0, hj => simp at hj; subst hj; simpa [Addr.add] using h

theorem wp_app_int {o : Oper} {a : Act} {K : Act → World → Prop} {Q : Exit → Act → World → Prop} {W : World} (s x : Operand)
    (ho : o.op = .call { callee := .builtin .append, args := #[s, x], argTypes := #[22, 22] })
    (base : Nat) (z : Int) (v : Value) (k : Nat) (l : List Int) (hs : a.eval s = v) (hown : W.ownsRow base 3 1 v k (l.map (Value.int .i64)))
    (B : Nat) (hx : a.eval x = .slice (some ⟨B, 0, none⟩) 1 1) (hnew : W.cell? ⟨B, 0, none⟩ = some (.int .i64 z)) (hk : k ≤ 1000000000) (hbase : base ≤ W.heap.size)
    (h : ∀ g cap w', w'.ownsRow base 3 1 (.slice (some ⟨g, 0, none⟩) (k + 1) cap) (k + 1) ((l ++ [z]).map (Value.int .i64)) → Below base W w' → K (a.put o.dst (.slice (some ⟨g, 0, none⟩) (k + 1) cap)) w') : o.wp Try.prog a W K Q := by
  obtain ⟨i0, hi, hz0, hz1, hz2⟩ := info_parts info_int
  refine wp_append_lies W s x 22 ho base 3 i0 _ 1 8 Try.underlying22 hi hz0 hz1 hz2 rfl (by omega) v k (l.map (Value.int .i64)) hs hown ⟨B, 0, none⟩ 1 1 [.int .i64 z] hx rfl (news_one hnew) (by simp [Value.oneCell']) (by omega) (by unfold maxLen; omega) (by omega) hbase W.heap.size rfl ?_
  intro g cap w' ho' hg _ _
  refine h g cap w' (by rw [List.map_append]; exact ho') ((Below.refl _ _).grown hg hbase (fun j e => (World.ownsRow.lt (w := W) hown j e).1))

theorem wpList_app_int {ops : Array Oper} {rest : List Oper} {o : Oper} {a : Act} {Q : Exit → Act → World → Prop} {W : World} (hgd : o.guard = none) (s x : Operand)
    (ho : o.op = .call { callee := .builtin .append, args := #[s, x], argTypes := #[22, 22] })
    (base : Nat) (z : Int) (v : Value) (k : Nat) (l : List Int) (hs : a.eval s = v) (hown : W.ownsRow base 3 1 v k (l.map (Value.int .i64)))
    (B : Nat) (hx : a.eval x = .slice (some ⟨B, 0, none⟩) 1 1) (hnew : W.cell? ⟨B, 0, none⟩ = some (.int .i64 z)) (hk : k ≤ 1000000000) (hbase : base ≤ W.heap.size)
    (h : ∀ g cap w', w'.ownsRow base 3 1 (.slice (some ⟨g, 0, none⟩) (k + 1) cap) (k + 1) ((l ++ [z]).map (Value.int .i64)) → Below base W w' → wpList Try.prog ops Q rest (a.put o.dst (.slice (some ⟨g, 0, none⟩) (k + 1) cap)) w') : wpList Try.prog ops Q (o :: rest) a W :=
  wpList_plain hgd fun _ hK => wp_app_int s x ho base z v k l hs hown B hx hnew hk hbase fun g cap w' h2 h3 => hK _ _ (h g cap w' h2 h3)

theorem step_app_int {ops : Array Oper} {o : Oper} {a : Act} {K : Act → World → Prop} {Q : Exit → Act → World → Prop} {E : Prop} {W : World} (hgd : o.guard = none) (s x : Operand)
    (ho : o.op = .call { callee := .builtin .append, args := #[s, x], argTypes := #[22, 22] })
    (base : Nat) (z : Int) (v : Value) (k : Nat) (l : List Int) (hs : a.eval s = v) (hown : W.ownsRow base 3 1 v k (l.map (Value.int .i64)))
    (B : Nat) (hx : a.eval x = .slice (some ⟨B, 0, none⟩) 1 1) (hnew : W.cell? ⟨B, 0, none⟩ = some (.int .i64 z)) (hk : k ≤ 1000000000) (hbase : base ≤ W.heap.size)
    (h : ∀ g cap w', w'.ownsRow base 3 1 (.slice (some ⟨g, 0, none⟩) (k + 1) cap) (k + 1) ((l ++ [z]).map (Value.int .i64)) → Below base W w' → K (a.put o.dst (.slice (some ⟨g, 0, none⟩) (k + 1) cap)) w') :
    if Region.wanted o (yielded ops a.tmps) = true then Oper.wp Try.prog o a W K Q else E := by
  have hw : Region.wanted o (yielded ops a.tmps) = true := by simp [Region.wanted, hgd]
  rw [if_pos hw]
  exact wp_app_int s x ho base z v k l hs hown B hx hnew hk hbase h

theorem ownsRow_drewN {w : World} {base : Nat} {e : TypeId} {size : Nat} {v : Value} {n : Nat} {xs : List Value} (h : w.ownsRow base e size v n xs) (k : Nat) : (w.drewN k).ownsRow base e size v n xs := h

set_option maxRecDepth 100000 in
set_option maxHeartbeats 2000000 in
theorem refMul_any (v u : Value) (xs ys : List Int) (w : World) (h : Ints w v xs) (k0 : Ints w u ys) (hle : xs.length = ys.length) (hx0 : ∀ x ∈ xs, 0 ≤ x ∧ x ≤ 1000) (hy0 : ∀ x ∈ ys, 0 ≤ x ∧ x ≤ 1000) (hn : xs.length ≤ 1000) :
    Calls Try.prog 22 #[v, u] w fun e w' => ∃ r, e = .returned (.tuple #[r, .int .i64 (Mo.mulE xs ys)]) ∧ OwnI w' w.heap.size r (Mo.mulL xs ys) ∧ Below w.heap.size w w' := by
  obtain ⟨a, cap, rfl, hcap, hmax, hc⟩ := h
  obtain ⟨a2, cap2, rfl, hcap2, hmax2, hc2⟩ := k0
  have HLE := Lib.hid hle; clear hle
  have HX0 := Lib.hid hx0; clear hx0
  have HY0 := Lib.hid hy0; clear hy0
  obtain ⟨i0, hi, hz0, hz1, hz2⟩ := info_parts info_int
  obtain ⟨zz, hzz⟩ : ∃ zz, Mo.sums xs ys = zz := ⟨_, rfl⟩
  have hzl : zz.length = xs.length := by rw [← hzz]; simp [Mo.sums, HLE.out]
  have hzs : ∀ k, k < xs.length → zz.take (k + 1) = zz.take k ++ [xs.getD k 0 + ys.getD k 0] := fun k hk => by rw [← hzz]; exact Mo.zipWith_take_succ _ xs ys k hk (by rw [← HLE.out]; exact hk)
  have HZL := Lib.hid hzl; clear hzl
  have HZS := Lib.hid hzs; clear hzs
  have HZZ := Lib.hid hzz; clear hzz
  go_enter Try.func22, Try.ntmps22
  go_wp2
  go_loopw [6, 7] (fun v i wr => ∃ k : Nat, k ≤ xs.length ∧ i = .int .i64 k ∧ wr.ownsRow w.heap.size 3 1 v k ((zz.take k).map (Value.int .i64)) ∧ (zz.take k).all (fun x => decide (x ≤ 60)) = true ∧ Below w.heap.size w wr) (fun _ i _ => xs.length - (intOf i).toNat)
  case atStart => exact ⟨0, Nat.zero_le _, rfl, World.ownsRow_nil _ _ _ _, by simp, Below.refl _ _⟩
  case round =>
    obtain ⟨k, hk, rfl, hown, hall, hB⟩ := hrel
    have HA := Lib.hid hall; clear hall
    by_cases hlt : k < xs.length
    · have hlt2 : k < ys.length := by rw [← HLE.out]; exact hlt
      obtain ⟨b, off, rfl, hcell⟩ := hc (by omega)
      obtain ⟨b2, off2, rfl, hcell2⟩ := hc2 (by omega)
      have bx := Mo.getD_bound xs 1000 HX0.out k hlt
      have by' := Mo.getD_bound ys 1000 HY0.out k hlt2
      have hst := HZS.out k hlt
      obtain ⟨x, hx⟩ : ∃ x, xs.getD k 0 = x := ⟨_, rfl⟩
      obtain ⟨y, hy⟩ : ∃ y, ys.getD k 0 = y := ⟨_, rfl⟩
      have hck0 := hcell k hlt
      have hck20 := hcell2 k hlt2
      have lb := World.block_lt_of_cell? w _ hck0
      have lb2 := World.block_lt_of_cell? w _ hck20
      have hck : wr.cell? ⟨b, off + k, none⟩ = _ := (hB.cell (p := ⟨b, off + k, none⟩) lb).trans hck0
      have hck2 : wr.cell? ⟨b2, off2 + k, none⟩ = _ := (hB.cell (p := ⟨b2, off2 + k, none⟩) lb2).trans hck20
      rw [hx] at hck bx hst
      rw [hy] at hck2 by' hst
      have na : u6.ownBlock ≠ some b := fun e => by have := (World.ownsRow.lt (w := wr) hown b e).1; simp at lb; omega
      have na2 : u6.ownBlock ≠ some b2 := fun e => by have := (World.ownsRow.lt (w := wr) hown b2 e).1; simp at lb2; omega
      have HS := Lib.hid hst
      have hsz := hB.size
      have ha2 : (zz.take (k + 1)).all (fun x => decide (x ≤ 60)) = decide (x + y ≤ 60) := by rw [HS.out, List.all_append, HA.out]; simp
      have HA2 := Lib.hid ha2; clear ha2
      clear hcell hc hcell2 hc2 hx hy hst hck0 hck20
      have hk0' : (0 : Int) ≤ (k : Int) := Int.natCast_nonneg _
      have hk1 : (k : Int) < (xs.length : Int) := by omega
      have hk2 : (k : Int) < (ys.length : Int) := by omega
      by_cases hbig : 60 < x + y
      · have hf : zz.all (fun x => decide (x ≤ 60)) = false := by
          have h5 := HA2.out
          rw [decide_eq_false (by omega)] at h5
          rw [List.all_eq_false] at h5 ⊢
          obtain ⟨q, hq, hp⟩ := h5
          exact ⟨q, List.mem_of_mem_take hq, hp⟩
        have hw : IntKind.i64.wrap (x + y) = x + y := IntWalk.i64_in _ (by omega)
        have hm : Mo.mulB xs ys = false := by unfold Mo.mulB; rw [HZZ.out]; exact hf
        have HE := Lib.hid (Mo.mulE_no hm)
        have HF := Lib.hid (Mo.mulL_no hm); clear hf hm
        go_wp2
        go_quiet (fail)
        clear hw
        go_wp2
        go_ret2
        exact ⟨_, by rw [HE.out]; rfl, by rw [HF.out]; exact World.ownsRow_nil _ _ _ _, below_drewN hB _⟩
      · have hw : IntKind.i64.wrap (x + y) = x + y := IntWalk.i64_in _ (by omega)
        have hal : (zz.take (k + 1)).all (fun x => decide (x ≤ 60)) = true := by rw [HA2.out]; simp; omega
        have HAL := Lib.hid hal; clear hal
        go_wp2
        go_quiet (fail)
        generalize hwq : wr.drewN nq = wq
        have hqc : wq.cell? ⟨b, off + k, none⟩ = some (.int .i64 x) := by rw [← hwq]; exact hck
        have hqc2 : wq.cell? ⟨b2, off2 + k, none⟩ = some (.int .i64 y) := by rw [← hwq]; exact hck2
        have hqo : wq.ownsRow w.heap.size 3 1 u6 k ((zz.take k).map (Value.int .i64)) := by rw [← hwq]; exact hown
        have hqB : Below w.heap.size w wq := by rw [← hwq]; exact below_drewN hB _
        have hqs := hqB.size
        have lq := World.block_lt_of_cell? wq _ hqc
        have lq2 := World.block_lt_of_cell? wq _ hqc2
        clear hwq hck hck2 hown hB hsz
        go_wp2
        go_region_held3 (fun w' => w'.cell? ⟨b, off + k, none⟩ = some (.int .i64 x) ∧ w'.cell? ⟨b2, off2 + k, none⟩ = some (.int .i64 y))
          (first
            | go_keep
            | (go_split_ands
               refine ⟨?_, ?_⟩
               · (rw [hgrow.cell_far _ (by simp at lq ⊢; omega) (Ne.symm na)]; assumption)
               · (rw [hgrow.cell_far _ (by simp at lq2 ⊢; omega) (Ne.symm na2)]; assumption)))
          ((refine step_append_lies _ (by rfl) _ _ _ (by rfl) w.heap.size 3 i0 _ 1 8 Try.underlying22 hi hz0 hz1 hz2 rfl (by omega) u6 k ((zz.take k).map (Value.int .i64)) (by rfl) ((hqo.alloc _).drew)
              ⟨wq.heap.size, 0, none⟩ 1 1 [.int .i64 (x + y)] (by rfl) (by rfl) (World.news_of_block (cs := #[.int .i64 (x + y)]) (t := 3) (fr := (0, 0)) (heap_alloc_new wq _)) (by simp [Value.oneCell'])
              (by omega) (by unfold maxLen; omega) (by omega) (by simp; omega) (wq.heap.size + 1) (by simp) ?_; intro gg cap w1 hown1 hgrow hat hlt))
        go_wp2
        go_roundw
        case rel => exact ⟨k + 1, by omega, by go_num, by rw [HS.out, List.map_append]; exact hown1, HAL.out, (hqB.alloc hqs _).drew.grown hgrow (by simp; omega) (fun j e => (World.ownsRow.lt (w := wq) hqo j e).1)⟩
        case measure => simp [intOf]; omega
    · have hkk : k = xs.length := by omega
      have htk : zz.take k = zz := List.take_of_length_le (by rw [HZL.out]; omega)
      rw [htk] at hown
      have hm : Mo.mulB xs ys = true := by unfold Mo.mulB; rw [HZZ.out, ← htk]; exact HA.out
      have hl : Mo.mulL xs ys = zz := by rw [Mo.mulL_yes hm]; exact HZZ.out
      have hk2 : k = zz.length := by rw [HZL.out]; exact hkk
      have HE := Lib.hid (Mo.mulE_yes hm)
      have HL := Lib.hid hl
      have HK := Lib.hid hk2
      clear hkk htk hm hl hk2
      go_wp2
      go_ret2
      exact ⟨_, by rw [HE.out]; rfl, by rw [HL.out]; unfold OwnI; rw [← HK.out]; exact hown, hB⟩

end Go.Proofs.Ytaidopbndlhpgaa
