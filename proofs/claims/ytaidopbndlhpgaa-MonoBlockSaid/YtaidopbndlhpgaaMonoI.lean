/-
  The walks of the small functions on exponent lists, ninth part: what is put together, two by two.
-/
import Derived.Test.YtaidopbndlhpgaaMonoH
import Derived.Test.YtaidopbndlhpgaaMonoPlain2
import Derived.Shelf.Abstract
namespace Go.Proofs.Ytaidopbndlhpgaa
open Go.RowKit

theorem info_int : (Try.prog.info? 3).map (fun i => (i.zero, i.size, i.bytes)) = some (some (.int .i64 0), 1, 8) := by kernel_rfl

/-- A slice of ints that the call owns. -/
def OwnI (w : World) (base : Nat) (v : Value) (xs : List Int) : Prop := w.ownsRow base 3 1 v xs.length (xs.map (Value.int .i64))

theorem OwnI.ints {w : World} {base : Nat} {v : Value} {xs : List Int} (h : OwnI w base v xs) (hl : (xs.length : Int) ≤ 9223372036854775807) : Ints w v xs := by
  have h0 := h
  rcases h.2 with ⟨rfl, hn⟩ | ⟨g, cap, cur, rfl, hg, hh, hn, hm, hs, ht⟩
  · have : xs = [] := List.eq_nil_of_length_eq_zero hn
    subst this
    exact ⟨none, 0, rfl, Nat.le_refl _, by simp, fun hp => by simp at hp⟩
  · refine ⟨_, cap, rfl, hn, hl, fun hp => ⟨g, 0, rfl, fun j hj => ?_⟩⟩
    rw [Nat.zero_add, World.ownsRow.cellAt (w := w) h0 j (by omega)]
    simp [List.getD, hj]

set_option maxHeartbeats 1000000 in
theorem zip_any (g : Nat) (f : Int → Int → Int) (hg : ∀ args w, (callFunc g args).run Try.prog w = .ok (.enter g args) w)
    (hop : ∀ (x y : Int) (W : World), 0 ≤ x → x ≤ 1000 → 0 ≤ y → y ≤ 1000 → Calls Try.prog g #[.int .i64 x, .int .i64 y] W fun e w' => e = .returned (.int .i64 (f x y)) ∧ W = w')
    (v u : Value) (xs ys : List Int) (w : World) (h : Ints w v xs) (k0 : Ints w u ys) (hle : xs.length = ys.length) (hx0 : ∀ x ∈ xs, 0 ≤ x ∧ x ≤ 1000) (hy0 : ∀ x ∈ ys, 0 ≤ x ∧ x ≤ 1000) (hn : xs.length ≤ 1000) :
    Calls Try.prog 42 #[v, u, .func (.func g) #[] #[]] w fun e w' => ∃ r, e = .returned r ∧ OwnI w' w.heap.size r (List.zipWith f xs ys) ∧ Below w.heap.size w w' := by
  obtain ⟨a, cap, rfl, hcap, hmax, hc⟩ := h
  obtain ⟨a2, cap2, rfl, hcap2, hmax2, hc2⟩ := k0
  have HLE := Lib.hid hle; clear hle
  have HX0 := Lib.hid hx0; clear hx0
  have HY0 := Lib.hid hy0; clear hy0
  have HOP := Lib.hid hop; clear hop
  obtain ⟨i0, hi, hz0, hz1, hz2⟩ := info_parts info_int
  go_enter Try.func42, Try.ntmps42
  go_wp2_with (at_make; refine wpList_make_full _ rfl _ _ 22 rfl w.heap.size 3 i0 (.int .i64 0) 1 Try.underlying22 hi hz0 hz1 .i64 .i64 _ _ xs.length rfl rfl rfl rfl (by rw [hz2]; omega) (by unfold maxLen; omega) (Nat.le_refl _) ?_; intro w1 hown hgrow)
  have hB1 : Below w.heap.size w w1 := (Below.refl _ w).grown hgrow (Nat.le_refl _) (fun k e => by cases e)
  rw [Nat.mul_one, show (Value.int IntKind.i64 0).cells = #[Value.int .i64 0] from rfl, toList_madeCells_one] at hown
  have hz : List.replicate xs.length (Value.int .i64 0) = (Mo.zipTo f xs ys 0).map (Value.int .i64) := by simp [Mo.zipTo]
  rw [hz] at hown
  clear hz hgrow hi hz0 hz1 hz2
  go_loopw [15] (fun i wr => ∃ k : Nat, k ≤ xs.length ∧ i = .int .i64 k ∧ wr.ownsRow w.heap.size 3 1 (.slice (some ⟨w.heap.size, 0, none⟩) xs.length xs.length) xs.length ((Mo.zipTo f xs ys k).map (Value.int .i64)) ∧ Below w.heap.size w wr) (fun i _ => xs.length - (intOf i).toNat)
  case atStart => exact ⟨0, Nat.zero_le _, rfl, hown, hB1⟩
  case round =>
    clear hown hB1
    obtain ⟨k, hk, rfl, hown, hB⟩ := hrel
    by_cases hlt : k < xs.length
    · have hlt2 : k < ys.length := by rw [← HLE.out]; exact hlt
      obtain ⟨b, off, rfl, hcell⟩ := hc (by omega)
      obtain ⟨b2, off2, rfl, hcell2⟩ := hc2 (by omega)
      have bx := Mo.getD_bound xs 1000 HX0.out k hlt
      have by' := Mo.getD_bound ys 1000 HY0.out k hlt2
      have hst := Mo.zipTo_set f xs ys k hlt hlt2
      obtain ⟨x, hx⟩ : ∃ x, xs.getD k 0 = x := ⟨_, rfl⟩
      obtain ⟨y, hy⟩ : ∃ y, ys.getD k 0 = y := ⟨_, rfl⟩
      have hck0 := hcell k hlt
      have hck20 := hcell2 k hlt2
      have hck : wr.cell? ⟨b, off + k, none⟩ = _ := (hB.cell (p := ⟨b, off + k, none⟩) (World.block_lt_of_cell? w _ hck0)).trans hck0
      have hck2 : wr.cell? ⟨b2, off2 + k, none⟩ = _ := (hB.cell (p := ⟨b2, off2 + k, none⟩) (World.block_lt_of_cell? w _ hck20)).trans hck20
      have hco : wr.cell? ⟨w.heap.size, k, none⟩ = some (.int .i64 ((Mo.zipTo f xs ys k).getD k 0)) := by
        rw [World.ownsRow.cellAt (w := wr) hown k (by omega)]
        have : k < (Mo.zipTo f xs ys k).length := by rw [Mo.zipTo_length f xs ys k (by omega) HLE.out]; exact hlt
        simp [List.getD, this]
      have hfo := World.ownsRow.frozenAt (w := wr) hown k
      rw [hx] at hck bx hst
      rw [hy] at hck2 by' hst
      obtain ⟨z, hz⟩ : ∃ z, f x y = z := ⟨_, rfl⟩
      obtain ⟨z0, hz0⟩ : ∃ z, (Mo.zipTo f xs ys k).getD k 0 = z := ⟨_, rfl⟩
      rw [hz] at hst
      rw [hz0] at hco
      have hop := HOP.out x y wr bx.1 bx.2 by'.1 by'.2
      rw [hz] at hop
      have HO := Lib.hid hop
      have HS := Lib.hid hst
      clear hcell hc hcell2 hc2 hx hy hst hck0 hck20 hz hop hz0
      go_wp2_with (go_at_fn g; refine HO.out.mono ?_; rintro e w' ⟨rfl, rfl⟩)
      go_roundw
      case rel => exact ⟨k + 1, by omega, by go_num, by rw [HS.out, List.map_set]; exact (World.ownsRow.stored (w := wr) hown k _).1, hB.setCell (p := ⟨w.heap.size, k, none⟩) (Nat.le_refl _) _⟩
      case measure => simp [intOf]; omega
    · have hfin := Mo.zipTo_all f xs ys k (by omega) HLE.out
      rw [hfin] at hown
      have hll : (List.zipWith f xs ys).length = xs.length := by simp [HLE.out]
      have HL := Lib.hid hll; clear hll hfin
      go_wp2
      go_ret
      exact ⟨_, rfl, by unfold OwnI; rw [HL.out]; exact hown, hB⟩

end Go.Proofs.Ytaidopbndlhpgaa
