/-
  append(own, came in...): a slice of the call's own, and all of another one.
-/
import Derived.Test.YtaidopbndlhpgaaMonoR
namespace Go.Proofs.Ytaidopbndlhpgaa
open Go.RowKit

theorem run_append_empty {P : Program} {w : World} (base : Nat) (t ty e : TypeId) (i : TypeInfo) (size : Nat) (ht : P.underlying t = some (.slice e)) (hi : P.info? e = some i)
    (v : Value) (n : Nat) (xs : List Value) (hown : w.ownsRow base e size v n xs) (ao : Option Addr) (c : Nat) :
    (Builtin.append_ #[t, t] ty #[v, .slice ao 0 c]).run P w = .ok v w := by
  rcases hown.2 with ⟨rfl, rfl⟩ | ⟨g, cap, cur, rfl, _, _, hnc, _⟩
  · simp [Builtin.append_, run_underlying ht, sizeOf, typeInfo, hi, Builtin.lenOf, Builtin.firstCells]
    cases ao <;> simp [loadCells, loadCellsFrom, go_sem]
  · simp [Builtin.append_, run_underlying ht, sizeOf, typeInfo, hi, Builtin.lenOf, Builtin.firstCells, hnc, storeCells]
    cases ao <;> simp [loadCells, loadCellsFrom, go_sem]

theorem wp_app_ints {o : Oper} {a : Act} {K : Act → World → Prop} {Q : Exit → Act → World → Prop} {W : World} (s x : Operand)
    (ho : o.op = .call { callee := .builtin .append, args := #[s, x], argTypes := #[22, 22] })
    (base : Nat) (v : Value) (l : List Int) (hs : a.eval s = v) (hown : OwnI W base v l) (V : Value) (ys : List Int) (hx : a.eval x = V) (hI : Ints W V ys) (hk : l.length + ys.length ≤ 1000000000) (hbase : base ≤ W.heap.size)
    (h : ∀ r w', OwnI w' base r (l ++ ys) → Below base W w' → K (a.put o.dst r) w') : o.wp Try.prog a W K Q := by
  obtain ⟨i0, hi, hz0, hz1, hz2⟩ := info_parts info_int
  obtain ⟨ao, cap, rfl, h1, h2, h3⟩ := hI
  by_cases hz : 0 < ys.length
  · obtain ⟨b, off, rfl, hc⟩ := h3 hz
    refine wp_append_own W s x 22 ho base 3 i0 _ 1 8 Try.underlying22 hi hz0 hz1 hz2 rfl (by omega) v l.length (l.map (Value.int .i64)) hs hown ⟨b, off, none⟩ ys.length cap (ys.map (Value.int .i64)) hx (by simp) ?_ ?_ (by unfold maxLen; omega) (by omega) hbase ?_
    · intro j u hj
      have hadd : (⟨b, off, none⟩ : Addr).add j = ⟨b, off + j, none⟩ := by unfold Addr.add; split <;> simp_all
      rw [List.getElem?_map] at hj
      obtain ⟨q, hq, rfl⟩ := Option.map_eq_some_iff.1 hj
      have hlt : j < ys.length := (List.getElem?_eq_some_iff.1 hq).1
      rw [hadd, hc j hlt]
      simp [List.getD, hq]
    · intro u hu
      obtain ⟨q, _, rfl⟩ := List.mem_map.1 hu
      rfl
    · intro r w' hr hg _
      exact h r w' (by unfold OwnI; rw [List.length_append, List.map_append]; exact hr) ((Below.refl _ _).grown hg hbase (fun j e => (World.ownsRow.lt (w := W) hown j e).1))
  · have hy : ys = [] := List.eq_nil_of_length_eq_zero (by omega)
    subst hy
    have hrun := run_append_empty (P := Try.prog) (w := W) base 22 o.type 3 i0 1 Try.underlying22 hi v l.length _ hown ao cap
    have hh := h v W (by rw [List.append_nil]; exact hown) (Below.refl _ _)
    unfold Oper.wp execOp
    simp only [List.length_nil] at hx
    simp only [ho, resolve, invoke, builtin, Sem.run_bind, Sem.run_pure, Result.andThen_ok, List.map_toArray, List.map_cons, List.map_nil, hs, hx, hrun]
    exact hh

theorem step_app_ints {ops : Array Oper} {o : Oper} {a : Act} {K : Act → World → Prop} {Q : Exit → Act → World → Prop} {E : Prop} {W : World} (hgd : o.guard = none) (s x : Operand)
    (ho : o.op = .call { callee := .builtin .append, args := #[s, x], argTypes := #[22, 22] })
    (base : Nat) (v : Value) (l : List Int) (hs : a.eval s = v) (hown : OwnI W base v l) (V : Value) (ys : List Int) (hx : a.eval x = V) (hI : Ints W V ys) (hk : l.length + ys.length ≤ 1000000000) (hbase : base ≤ W.heap.size)
    (h : ∀ r w', OwnI w' base r (l ++ ys) → Below base W w' → K (a.put o.dst r) w') :
    if Region.wanted o (yielded ops a.tmps) = true then Oper.wp Try.prog o a W K Q else E := by
  have hw : Region.wanted o (yielded ops a.tmps) = true := by simp [Region.wanted, hgd]
  rw [if_pos hw]
  exact wp_app_ints s x ho base v l hs hown V ys hx hI hk hbase h

theorem own_made (w : World) (kk : Nat) (Cz : Array Value) (h : madeCells (Value.int IntKind.i64 0).cells (kk * 1) = Cz) (hk : kk ≤ 1000000000) :
    OwnI (w.alloc (.cells Cz 3)) w.heap.size (.slice (some ⟨w.heap.size, 0, none⟩) kk kk) (List.replicate kk 0) := by
  subst h
  have hl : (madeCells (Value.int IntKind.i64 0).cells (kk * 1)).toList = List.replicate kk (Value.int .i64 0) := by
    rw [Nat.mul_one, show (Value.int IntKind.i64 0).cells = #[Value.int .i64 0] from rfl, toList_madeCells_one]
  have hs : (madeCells (Value.int IntKind.i64 0).cells (kk * 1)).size = kk := by
    rw [← Array.length_toList, hl, List.length_replicate]
  have := World.ownsRow_lit (base := w.heap.size) (e := 3) (size := 1) w _ kk (Nat.le_refl _) (by unfold maxLen; omega) (show (madeCells (Value.int IntKind.i64 0).cells (kk * 1)).size = kk * 1 by omega)
  rw [hl] at this
  unfold OwnI
  rw [List.length_replicate, List.map_replicate]
  exact this

end Go.Proofs.Ytaidopbndlhpgaa
