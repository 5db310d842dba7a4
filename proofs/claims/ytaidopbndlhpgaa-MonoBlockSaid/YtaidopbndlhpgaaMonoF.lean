/-
  The walks of the small functions on exponent lists, sixth part: a range over slices.Backward.
-/
import Derived.Test.YtaidopbndlhpgaaMonoE
import Derived.RangeFuncNested
import Derived.RangeFuncBound
import Derived.RangeFuncCalls
import Derived.RangeFuncLeaves
import Derived.RangeFuncBox
import Derived.Shelf.Abstract
import Derived.Shelf.RegionOpen
import Derived.OwnWalkIn
import Derived.TacticsInMore
import Derived.LoopNIn
import Derived.LoopIn
import Derived.Sort.QuietTacIn
namespace Go.Proofs.Ytaidopbndlhpgaa
open Go.RowKit Go.Shelf

attribute [local go_sem] Oper.semAt_some

theorem quiet_eqIn {r : Nat} {P : Program} {f : FuncId} {args : Array Value} {w : World} {n : Nat} {v : Value}
    (h : Calls P f args (w.drewN n) fun e w' => e = .returned v ∧ w.drewN n = w') : CallsIn Fence.wide r P f args (w.drewN n) fun e w'' => e = .returned v ∧ ∃ m, w'' = w.drewN m :=
  callsIn_wide.2 (quiet_eq h)

set_option maxRecDepth 100000 in
set_option maxHeartbeats 1000000 in
/-- slices.Backward's closure. -/
theorem back1_in (F : Fence) (n : Nat) (h7 : F.fn 52) (hro : F.round = none) (hn : 1 ≤ n) (l Bs n₀ b off cap : Nat) (zs : List Int) (hmax : (zs.length : Int) ≤ 9223372036854775807) (hb : b < n₀) (J Jx : List (Fin zs.length) → World → Prop)
    (hY : ∀ pre (x : Fin zs.length) W, J pre W → pre.length < zs.length → YieldAt F (n - 1) Try.prog l #[.int .i64 (x.1 : Int), .int .i64 (zs.getD x.1 0)] W fun e W' =>
      (e = .returned (.bool true) ∧ J (pre ++ [x]) W' ∧ Below n₀ W W') ∨ (e = .returned (.bool false) ∧ Jx (pre ++ [x]) W'))
    (W : World) (hBs : W.cell? ⟨Bs, 0, none⟩ = some (.slice (some ⟨b, off, none⟩) zs.length cap)) (hBn : Bs < n₀) (hc : ∀ j, j < zs.length → W.cell? ⟨b, off + j, none⟩ = some (.int .i64 (zs.getD j 0))) (h0 : J [] W) :
    CallsIn F n Try.prog 52 #[.func (.yield l) #[] #[], .pointer (some ⟨Bs, 0, none⟩)] W fun e W' => (∃ v, e = .returned v) ∧
      ((∃ ys, ys.map Fin.val = Mo.downs zs.length zs.length ∧ J ys W') ∨ (∃ pre, (∃ k, k ≤ zs.length ∧ pre.map Fin.val = Mo.downs zs.length k) ∧ Jx pre W')) := by
  refine callsIn_of_wp Try.func52 rfl h7 ?_ hro
  simp only [Try.ntmps52, List.size_toArray, List.length_cons, List.length_nil, Nat.reduceAdd, Nat.reduceSub, Array.replicate_succ, Array.replicate_zero, List.push_toArray, List.append_toArray, List.nil_append, List.cons_append]
  gi_wp2
  gi_loopw [3] (fun i wr => ∃ (k : Nat) (pre : List (Fin zs.length)), k ≤ zs.length ∧ i = .int .i64 ((k : Int) - 1) ∧ pre.map Fin.val = Mo.downs zs.length (zs.length - k) ∧ J pre wr ∧ Below n₀ W wr)
    (fun i _ => (intOf i + 1).toNat)
  case atStart => exact ⟨zs.length, [], Nat.le_refl _, rfl, by simp [Mo.downs], h0, Below.refl _ _⟩
  case round =>
    obtain ⟨k', pre, hk, rfl, hpre, hJs, hnx⟩ := hrel
    have HP := Lib.hid hpre; clear hpre
    have hbs : wr.cell? ⟨Bs, 0, none⟩ = some (.slice (some ⟨b, off, none⟩) zs.length cap) := (hnx.cell (p := ⟨Bs, 0, none⟩) hBn).trans hBs
    cases k' with
    | zero =>
      gi_wp2
      go_end0
      exact ⟨⟨_, rfl⟩, .inl ⟨pre, by rw [HP.out]; rfl, hJs⟩⟩
    | succ k =>
      have hlt : k < zs.length := by omega
      have hcx : wr.cell? ⟨b, off + k, none⟩ = some (.int .i64 (zs.getD k 0)) := (hnx.cell (p := ⟨b, off + k, none⟩) hb).trans (hc k hlt)
      have hlen : pre.length < zs.length := by
        have := congrArg List.length HP.out
        rw [List.length_map, Mo.downs_length] at this
        omega
      obtain ⟨x, hx⟩ : ∃ x, zs.getD k 0 = x := ⟨_, rfl⟩
      have hyy := hY pre ⟨k, hlt⟩ wr hJs hlen
      dsimp only at hyy
      rw [hx] at hcx hyy
      have HX := Lib.hid hx; clear hx
      rw [show ((k + 1 : Nat) : Int) - 1 = (k : Int) by omega]
      obtain ⟨fn, tmps, assign, body, hy, hR⟩ := hyy
      have hdn : (pre ++ [(⟨k, hlt⟩ : Fin zs.length)]).map Fin.val = Mo.downs zs.length (zs.length - k) := by
        rw [List.map_append, HP.out, show zs.length - k = (zs.length - (k + 1)) + 1 by omega, Mo.downs_succ]
        simp; omega
      have HD := Lib.hid hdn; clear hdn
      gi_wp2
      refine hR.mono ?_
      rintro e W3 (⟨rfl, hJ3, hk3⟩ | ⟨rfl, hJx3⟩)
      · -- THE ROUND GOES ON
        gi_wp2
        go_roundw
        case rel => exact ⟨k, _, by omega, by go_num, HD.out, hJ3, hnx.trans hk3⟩
        case measure => simp [intOf]
      · gi_wp2
        refine bodyPost_ret (results_none rfl _ _ _) rfl ?_
        exact ⟨⟨_, rfl⟩, .inr ⟨_, ⟨zs.length - k, by omega, HD.out⟩, hJx3⟩⟩

set_option maxRecDepth 100000 in
set_option maxHeartbeats 1000000 in
/-- .. at an empty slice: no round. -/
theorem back1_nil_in (F : Fence) (n : Nat) (h7 : F.fn 52) (hro : F.round = none) (l Bs cap : Nat) (a : Option Addr) (J : World → Prop) (W : World) (hBs : W.cell? ⟨Bs, 0, none⟩ = some (.slice a 0 cap)) (h0 : J W) :
    CallsIn F n Try.prog 52 #[.func (.yield l) #[] #[], .pointer (some ⟨Bs, 0, none⟩)] W fun e W' => (∃ v, e = .returned v) ∧ J W' := by
  refine callsIn_of_wp Try.func52 rfl h7 ?_ hro
  simp only [Try.ntmps52, List.size_toArray, List.length_cons, List.length_nil, Nat.reduceAdd, Nat.reduceSub, Array.replicate_succ, Array.replicate_zero, List.push_toArray, List.append_toArray, List.nil_append, List.cons_append]
  gi_wp2
  gi_loopw [3] (fun i wr => i = .int .i64 (-1) ∧ J wr) (fun _ _ => 0)
  case atStart => exact ⟨rfl, h0⟩
  case round =>
    obtain ⟨rfl, hJs⟩ := hrel
    gi_wp2
    go_end0
    exact ⟨⟨_, rfl⟩, hJs⟩

set_option maxHeartbeats 400000 in
theorem backward_in (a : Option Addr) (len cap : Nat) (w : World) :
    Calls Try.prog 50 #[.slice a len cap] w fun e w' => e = .returned (.func (.func 52) #[] #[.pointer (some ⟨w.heap.size, 0, none⟩)]) ∧ w' = w.alloc (.cells #[.slice a len cap] 22) := by
  have hmf : ∀ (fn : Fn) (first cap : Array Value) (w : World), (Instr.makeFunc fn first cap).run Try.prog w = .ok (.func fn first cap) w := fun _ _ _ _ => rfl
  go_enter Try.func50, Try.ntmps50
  go_wp2
  go_ret
  exact ⟨rfl, rfl⟩

/-- slices.Backward's value: from the last place down. -/
theorem back_stops (n : Nat) (hn : 1 ≤ n) (Bs n₀ : Nat) (v : Value) (zs : List Int) (w : World) (hBs : Bs < n₀) (hn₀ : n₀ ≤ w.heap.size) (hc : w.cell? ⟨Bs, 0, none⟩ = some v) (hI : Ints w v zs) (hb : ∀ b off cap, v = .slice (some ⟨b, off, none⟩) zs.length cap → 0 < zs.length → b < n₀) :
    SeqStopsK Fence.wide n Try.prog 52 #[.pointer (some ⟨Bs, 0, none⟩)] (fun x : Fin zs.length => #[Value.int .i64 (x.1 : Int), Value.int .i64 (zs.getD x.1 0)]) (Below n₀) (fun ys => ys.map Fin.val = Mo.downs zs.length zs.length)
      (fun pre => ∃ k, k ≤ zs.length ∧ pre.map Fin.val = Mo.downs zs.length k) zs.length w := fun l J Jx W hW _ _ hY h0 => by
  have hc' := (hW.cell (p := ⟨Bs, 0, none⟩) (by show Bs < w.heap.size; omega)).trans hc
  have hI' := hI.below hW
  obtain ⟨a, cap, rfl, h1, h2, h3⟩ := hI'
  by_cases hz : 0 < zs.length
  · obtain ⟨b, off, rfl, hcs⟩ := h3 hz
    exact back1_in Fence.wide n trivial rfl hn l Bs n₀ b off cap zs h2 (hb b off cap rfl hz) J Jx hY W hc' hBs hcs h0
  · have hz0 : zs = [] := List.eq_nil_of_length_eq_zero (by omega)
    subst hz0
    exact (back1_nil_in Fence.wide n trivial rfl l Bs cap a (J []) W hc' h0).mono fun e W' ⟨he, hj⟩ => ⟨he, .inl ⟨[], rfl, hj⟩⟩

set_option maxRecDepth 100000 in
set_option maxHeartbeats 1000000 in
theorem grevlex_any
    (c v u : Value) (xs ys : List Int) (w : World) (h : Ints w v xs) (k : Ints w u ys) (hle : xs.length = ys.length) (hx0 : ∀ x ∈ xs, 0 ≤ x ∧ x ≤ 1000) (hy0 : ∀ x ∈ ys, 0 ≤ x ∧ x ≤ 1000) (hn1 : xs.length ≤ 1000) :
    Calls Try.prog 37 #[c, v, u] w fun e w' => e = .returned (.int .i64 (Mo.grevC xs ys)) ∧ Below w.heap.size w w' := by
  refine (callsIn_wide (n := 3)).1 ?_
  have hro : Fence.wide.round = none := rfl
  have h0 := h
  have k0 := k
  obtain ⟨a, cap, rfl, hcap, hmax, hc⟩ := h
  obtain ⟨a2, cap2, rfl, hcap2, hmax2, hc2⟩ := k
  have hn2 : ys.length ≤ 1000 := by omega
  have HLE := Lib.hid hle; clear hle
  have HX0 := Lib.hid hx0; clear hx0
  have HY0 := Lib.hid hy0; clear hy0
  refine callsIn_of_wp_marks Try.func37 rfl trivial ?_ hro
  simp only [Try.ntmps37, List.size_toArray, List.length_cons, List.length_nil, Nat.reduceAdd, Nat.reduceSub, Array.replicate_succ, Array.replicate_zero, List.push_toArray, List.append_toArray, List.nil_append, List.cons_append]
  gi_wp2
  refine wpIn_region_quiet_lit rfl (by kernel_rfl) (by kernel_rfl) ?_
  repeat (refine wpQuietIn_step (fun _ _ _ _ => trivial) (fun K hK => ?_); go_simp; first | (refine hK _ ?_; clear hK K) | (apply Exists.intro; refine ⟨fun _ => ?_, hK _ ?_⟩; (first | (gi_at_call 30; exact quiet_eqIn (deg_any _ _ _ ((h0.alloc _).alloc _ |>.drewN _) HX0.out hn1)) | (gi_at_call 30; exact quiet_eqIn (deg_any _ _ _ ((k0.alloc _).alloc _ |>.drewN _) HY0.out hn2)) | (gi_at_call 48; exact quiet_eqIn (compare_any _ _ _))); clear hK K))
  refine wpQuietIn_nil ?_
  intro _ hw'
  obtain ⟨nq, hw''⟩ := hw'
  subst hw''
  by_cases hd : Mo.deg xs = Mo.deg ys
  · have hz : Mo.sgn (Mo.deg xs - Mo.deg ys) = 0 := by rw [hd, Int.sub_self]; rfl
    rw [hz]
    have hfin : Mo.grevC xs ys = Mo.lexC ys.reverse xs.reverse := by unfold Mo.grevC; rw [if_pos hd]
    have HF := Lib.hid hfin; clear hfin
    have HD := Lib.hid hd; clear hd hz
    generalize hW0 : (((w.alloc (Obj.cells #[Value.slice a2 ys.length cap2] 22)).alloc (Obj.cells #[Value.int IntKind.i64 0] 3)).drewN nq) = W0
    have hsz : W0.heap.size = w.heap.size + 2 := by rw [← hW0]; simp
    have hB0 : Below w.heap.size w W0 := by rw [← hW0]; exact below_drewN (((Below.refl _ w).alloc (Nat.le_refl _) _).alloc (by simp) _) _
    have bS : Boxed W0 w.heap.size 22 (.slice a2 ys.length cap2) := by rw [← hW0]; exact (Boxed.new w _ _).alloc _
    have bR : Boxed W0 (w.heap.size + 1) 3 (.int .i64 0) := by rw [← hW0]; have := Boxed.new (w.alloc (Obj.cells #[Value.slice a2 ys.length cap2] 22)) 3 (.int .i64 0); rw [World.size_alloc] at this; exact this
    have HW0 := Lib.hid hW0; clear hW0
    have HSZ := Lib.hid hsz; clear hsz
    gi_wp2_with (refine ⟨trivial, ?_⟩; gi_at_call 50; refine (callsIn_wide.2 (backward_in _ _ _ _)).mono ?_; rintro e w' ⟨rfl, rfl⟩)
    have hI1 : Ints (W0.alloc (Obj.cells #[Value.slice a xs.length cap] 22)) (.slice a xs.length cap) xs := (h0.below hB0).alloc _
    have bN := Boxed.new W0 22 (.slice a xs.length cap)
    have hB1 : Below w.heap.size w (W0.alloc (Obj.cells #[Value.slice a xs.length cap] 22)) := hB0.alloc hB0.size _
    have bS1 := bS.alloc (Obj.cells #[Value.slice a xs.length cap] 22)
    have bR1 := bR.alloc (Obj.cells #[Value.slice a xs.length cap] 22)
    have hbb : ∀ b off cap', Value.slice a xs.length cap = .slice (some ⟨b, off, none⟩) xs.length cap' → 0 < xs.length → b < W0.heap.size + 1 := by
      intro b off cap' e hp
      obtain ⟨b', off', e', hcs⟩ := hc hp
      cases e
      cases e'
      have := World.block_lt_of_cell? w _ (hcs 0 hp)
      have := hB0.size
      show b < _
      simp at *
      omega
    generalize hW1 : W0.alloc (Obj.cells #[Value.slice a xs.length cap] 22) = W1 at *
    have hsz1 : W1.heap.size = W0.heap.size + 1 := by rw [← hW1]; simp
    clear hW1
    refine wpIn_rangeFunc_ownG hro (by omega) (gf := 52) (lb := #[.pointer (some ⟨W0.heap.size, 0, none⟩)]) rfl trivial (enters_of Try.func52 (by kernel_rfl) rfl)
      (back_stops 2 (by omega) W0.heap.size (W0.heap.size + 1) _ xs W1 (by omega) (by omega) bN.cell hI1 hbb) belowK_t (belowK_b (by omega)) (Below.refl _ _) (fun _ => rfl)
      (fun pre W => ((∀ p ∈ pre, xs.getD p.1 0 = ys.getD p.1 0) ∧ (W.cell? ⟨w.heap.size, 0, none⟩ = some (.slice a2 ys.length cap2)) ∧ W.cell? ⟨w.heap.size + 1, 0, none⟩ = some (.int .i64 0) ∧ W.frozen? ⟨w.heap.size + 1, 0, none⟩ = false) ∧ Below w.heap.size w W)
      (fun c pre W => (c = .ret ∧ ∃ ini last, pre = ini ++ [last] ∧ (∀ p ∈ ini, xs.getD p.1 0 = ys.getD p.1 0) ∧ ¬ xs.getD last.1 0 = ys.getD last.1 0 ∧ W.cell? ⟨w.heap.size + 1, 0, none⟩ = some (.int .i64 (Mo.sgn (ys.getD last.1 0 - xs.getD last.1 0)))) ∧ Below w.heap.size w W)
      (OwnFrom.and (Own.from (fun s A B row hs hg hr => ⟨hs.1, cell_kept hs.2.1 hg hr, cell_kept hs.2.2.1 hg hr, (frozen_kept hs.2.2.1 hg hr).trans hs.2.2.2⟩) _) (ownFrom_below (Nat.le_refl _) (by have := HSZ.out; omega)))
      (fun c => OwnFrom.and (Own.from (fun s A B row hs hg hr => by obtain ⟨hc, ini, last, e1, e2, e3, e4⟩ := hs; exact ⟨hc, ini, last, e1, e2, e3, cell_kept e4 hg hr⟩) _) (ownFrom_below (Nat.le_refl _) (by have := HSZ.out; omega)))
      ⟨⟨by simp, bS1.cell, bR1.cell, bR1.frozen⟩, hB1⟩
      (fun x => { tmps := #[c, .slice a xs.length cap, .slice a2 ys.length cap2, undef, undef, .pointer (some ⟨w.heap.size, 0, none⟩), .pointer (some ⟨w.heap.size + 1, 0, none⟩), .int .i64 0, .int .i64 (x.1 : Int), .int .i64 (xs.getD x.1 0), .slice a xs.length cap, .int .i64 (Mo.deg xs), .slice a2 ys.length cap2, .int .i64 (Mo.deg ys), .int .i64 0, .int .i64 0, .bool false, undef, .slice a xs.length cap, .func (.func 52) #[] #[.pointer (some ⟨W0.heap.size, 0, none⟩)], .int .i64 (x.1 : Int), .int .i64 (xs.getD x.1 0), undef, undef, undef, undef, undef, undef, undef, undef, undef, undef, undef, undef], defers := [] }) ?assign ?body ?done ?stop
    case assign =>
      intro l x W K hK
      dsimp only at hK ⊢
      generalize xs.getD x.1 0 = z at hK ⊢
      gi_wp2
      exact hK
    case body =>
      rintro l pre ⟨i, hi⟩ W ⟨⟨hp, hbS, hcr, hfr⟩, hB⟩ _
      have hi2 : i < ys.length := by rw [← HLE.out]; exact hi
      obtain ⟨b2, off2, rfl, hcell2⟩ := hc2 (by omega)
      have hk2 : W.cell? ⟨b2, off2 + i, none⟩ = some (.int .i64 (ys.getD i 0)) := (hB.cell (p := ⟨b2, off2 + i, none⟩) (World.block_lt_of_cell? w _ (hcell2 i hi2))).trans (hcell2 i hi2)
      dsimp only
      obtain ⟨x, hx⟩ : ∃ x, xs.getD i 0 = x := ⟨_, rfl⟩
      obtain ⟨y, hy⟩ : ∃ y, ys.getD i 0 = y := ⟨_, rfl⟩
      rw [hx]
      rw [hy] at hk2
      have HX := Lib.hid hx; clear hx
      have HY := Lib.hid hy; clear hy
      have HP := Lib.hid hp; clear hp
      clear hc hc2 hcell2
      by_cases hxy : x = y
      · subst hxy
        have hb0 : (x != x) = false := by simp
        gi_wp2
        refine ⟨KeepsFrom.refl _ _, Below.refl _ _, ⟨fun p hp' => (List.mem_append.1 hp').elim (HP.out p) (fun e => by simp at e; subst e; exact HX.out.trans HY.out.symm), hbS, hcr, hfr⟩, hB⟩
      · have hb0 : (x != y) = true := by simp [hxy]
        have HXY := Lib.hid hxy; clear hxy
        gi_wp2_with (refine ⟨trivial, ?_⟩; gi_at_call 48; refine (CallsIn.inRound l (callsIn_wide.2 (compare_any _ _ _))).mono ?_; rintro e w' ⟨rfl, rfl⟩)
        refine ⟨(KeepsOthers.setCell _ _ _).from _, ⟨rfl, pre, ⟨i, hi⟩, rfl, HP.out, ?_, ?_⟩, hB.setCell (p := ⟨w.heap.size + 1, 0, none⟩) (by simp) _⟩
        · show ¬ xs.getD i 0 = ys.getD i 0
          rw [HX.out, HY.out]; exact HXY.out
        · show _ = some (Value.int .i64 (Mo.sgn (ys.getD i 0 - xs.getD i 0)))
          rw [HX.out, HY.out]
          exact World.cell?_setCell_same' _ _ _ (by rw [hcr]; rfl)
    case done =>
      rintro D zs W hD hzs ⟨⟨hne, hbS, hcr, hfr⟩, hB⟩ hK
      have hfin : Mo.grevC xs ys = 0 := by
        rw [HF.out]
        refine Mo.lexC_rev_all ys xs HLE.out.symm (fun j hj => ?_)
        have hj1 : j < xs.length := by rw [HLE.out]; exact hj
        have hm : j ∈ zs.map Fin.val := by
          rw [hzs]
          simp only [Mo.downs, List.mem_map, List.mem_range]
          exact ⟨xs.length - 1 - j, by omega, by omega⟩
        obtain ⟨q, hq, hqj⟩ := List.mem_map.1 hm
        have := hne q hq
        rw [hqj] at this
        exact this.symm
      have HG := Lib.hid hfin; clear hfin
      have HN := Lib.hid hne; clear hne
      have HZ := Lib.hid hzs; clear hzs
      gi_wp2
      have hK' := (KeepsOthers.setCell W ⟨w.heap.size + 1, 0, none⟩ (.int .i64 0)).same D _ hK rfl
      refine ⟨by simp, .inl ⟨_, _, rfl, run_takeDeferred hK', ?_⟩⟩
      have hc5 := cell_kept (World.cell?_setCell_same' W ⟨w.heap.size + 1, 0, none⟩ (.int .i64 0) (by rw [hcr]; rfl)) (grownBy_putObj' _ D (.deferred none)) (fun r e => by cases e; exact ⟨_, hK', rfl⟩)
      refine ⟨.int .i64 0, ?_, by rw [HG.out], (hB.setCell (p := ⟨w.heap.size + 1, 0, none⟩) (by simp) _).trans (belowK_b (w := w) (Nat.le_refl _) _ D _ _ (by have := HSZ.out; omega) hK' rfl rfl)⟩
      simp [results, Try.f37, go_sem, hc5]
    case stop =>
      rintro D c' pre W hD ⟨k, hk, hpre⟩ ⟨⟨rfl, ini, last, e1, e2, e3, hcr⟩, hB⟩ hK
      have hfin : Mo.sgn (ys.getD last.1 0 - xs.getD last.1 0) = Mo.grevC xs ys := by
        subst e1
        obtain ⟨k', rfl⟩ : ∃ k', k = k' + 1 := by
          cases k with
          | zero => simp [Mo.downs] at hpre
          | succ k' => exact ⟨k', rfl⟩
        rw [Mo.downs_succ, List.map_append] at hpre
        obtain ⟨e4, e5⟩ := List.append_inj' hpre rfl
        have e6 : last.1 = xs.length - 1 - k' := by simpa using e5
        rw [HF.out]
        refine (Mo.lexC_rev_at ys xs last.1 HLE.out.symm (by rw [← HLE.out]; exact last.2) (fun h => e3 h.symm) (fun j h1 h2 => ?_)).symm
        have h3 : j < xs.length := by rw [HLE.out]; exact h2
        have hm : j ∈ ini.map Fin.val := by
          rw [e4]
          simp only [Mo.downs, List.mem_map, List.mem_range]
          exact ⟨xs.length - 1 - j, by omega, by omega⟩
        obtain ⟨q, hq, hqj⟩ := List.mem_map.1 hm
        have := e2 q hq
        rw [hqj] at this
        exact this.symm
      rw [hfin] at hcr
      have HG := Lib.hid hfin; clear hfin e1 e2 e3
      have HPR := Lib.hid hpre; clear hpre
      gi_wp2
      refine ⟨by simp, .inl ⟨_, _, rfl, run_takeDeferred hK, ?_⟩⟩
      have hc5 := cell_kept hcr (grownBy_putObj' _ D (.deferred none)) (fun r e => by cases e; exact ⟨_, hK, rfl⟩)
      refine ⟨.int .i64 (Mo.grevC xs ys), ?_, rfl, hB.trans (belowK_b (w := w) (Nat.le_refl _) _ D _ _ (by have := HSZ.out; omega) hK rfl rfl)⟩
      simp [results, Try.f37, go_sem, hc5]
  · have hz : (Mo.sgn (Mo.deg xs - Mo.deg ys) != 0) = true := Mo.sgn_ne hd
    have hfin : Mo.grevC xs ys = Mo.sgn (Mo.deg xs - Mo.deg ys) := by unfold Mo.grevC; rw [if_neg hd]
    obtain ⟨s, hs⟩ : ∃ s, Mo.sgn (Mo.deg xs - Mo.deg ys) = s := ⟨_, rfl⟩
    rw [hs] at hz hfin ⊢
    have HF := Lib.hid hfin; clear hfin hd hs
    gi_wp2
    have hc5 : ((((w.alloc (Obj.cells #[Value.slice a2 ys.length cap2] 22)).alloc (Obj.cells #[Value.int IntKind.i64 0] 3)).drewN nq).setCell ⟨w.heap.size + 1, 0, none⟩ (Value.int IntKind.i64 s)).cell? ⟨w.heap.size + 1, 0, none⟩ = some (Value.int IntKind.i64 s) := World.cell?_setCell_same' _ _ _ (by simp [go_sem])
    exact ⟨Value.int IntKind.i64 s, by simp [results, Try.f37, go_sem, hc5], by rw [HF.out], (below_drewN (((Below.refl _ w).alloc (Nat.le_refl _) _).alloc (by simp) _) _).setCell (by simp) _⟩

end Go.Proofs.Ytaidopbndlhpgaa
