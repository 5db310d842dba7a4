/-
  The walks of the small functions on exponent lists.
-/
import Derived.Test.YtaidopbndlhpgaaProg
import Derived.Test.YtaidopbndlhpgaaMonoPlain
import Derived.WalkKit
import Derived.WalkSpells
import Derived.WalkLawsBesides
import Derived.Lib.Hide
import Derived.BigQuiet
import Derived.Deep.QuietTactic
namespace Go.Proofs.Ytaidopbndlhpgaa
open Go.RowKit

/-- A contract that leaves the world alone, met inside a region that draws. -/
theorem quiet_eq {P : Program} {f : FuncId} {args : Array Value} {w : World} {n : Nat} {v : Value}
    (h : Calls P f args (w.drewN n) fun e w' => e = .returned v ∧ w.drewN n = w') : Calls P f args (w.drewN n) fun e w'' => e = .returned v ∧ ∃ m, w'' = w.drewN m :=
  h.mono fun _ _ ⟨he, hm⟩ => ⟨he, n, hm.symm⟩

theorem quiet_eq' {P : Program} {f : FuncId} {args : Array Value} {w : World} {m n : Nat} {v : Value}
    (h : Calls P f args (w.drewN (m + n)) fun e w' => e = .returned v ∧ w.drewN (m + n) = w') : Calls P f args (w.drewN (m + n)) fun e w'' => e = .returned v ∧ ∃ j, w'' = w.drewN (m + j) :=
  h.mono fun _ _ ⟨he, hm⟩ => ⟨he, n, hm.symm⟩

/-- A contract that draws, met inside a region that draws. -/
theorem quiet_dr {P : Program} {f : FuncId} {args : Array Value} {w : World} {n : Nat} {v : Value}
    (h : Calls P f args (w.drewN n) fun e w' => e = .returned v ∧ ∃ j, w' = (w.drewN n).drewN j) : Calls P f args (w.drewN n) fun e w'' => e = .returned v ∧ ∃ m, w'' = w.drewN m :=
  h.mono fun _ _ ⟨he, j, hm⟩ => ⟨he, n + j, by rw [hm, World.drewN_drewN]⟩

theorem quiet_dr' {P : Program} {f : FuncId} {args : Array Value} {w : World} {m n : Nat} {v : Value}
    (h : Calls P f args (w.drewN (m + n)) fun e w' => e = .returned v ∧ ∃ j, w' = (w.drewN (m + n)).drewN j) : Calls P f args (w.drewN (m + n)) fun e w'' => e = .returned v ∧ ∃ j, w'' = w.drewN (m + j) :=
  h.mono fun _ _ ⟨he, j, hm⟩ => ⟨he, n + j, by rw [hm, World.drewN_drewN, Nat.add_assoc]⟩

theorem dr_refl (w : World) : ∃ n, w = w.drewN n := ⟨0, rfl⟩
theorem dr_step {w w1 : World} {k : Nat} (h : ∃ n, w1 = w.drewN n) : ∃ m, w1.drewN k = w.drewN m := by
  obtain ⟨n, rfl⟩ := h
  exact ⟨n + k, World.drewN_drewN _ _ _⟩

/-- A slice value that reads as a list of ints. -/
def Ints (w : World) (v : Value) (xs : List Int) : Prop :=
  ∃ (a : Option Addr) (cap : Nat), v = .slice a xs.length cap ∧ xs.length ≤ cap ∧ (xs.length : Int) ≤ 9223372036854775807 ∧
    (0 < xs.length → ∃ b off, a = some ⟨b, off, none⟩ ∧ ∀ j, j < xs.length → w.cell? ⟨b, off + j, none⟩ = some (.int .i64 (xs.getD j 0)))

theorem Ints.below {w w' : World} {v : Value} {xs : List Int} (h : Ints w v xs) (hb : Below w.heap.size w w') : Ints w' v xs := by
  obtain ⟨a, cap, rfl, h1, h2, h3⟩ := h
  refine ⟨a, cap, rfl, h1, h2, fun hp => ?_⟩
  obtain ⟨b, off, rfl, hc⟩ := h3 hp
  refine ⟨b, off, rfl, fun j hj => ?_⟩
  have hbk := World.block_lt_of_cell? w _ (hc j hj)
  exact (hb.cell (p := ⟨b, off + j, none⟩) hbk).trans (hc j hj)

theorem Ints.drew {w : World} {v : Value} {xs : List Int} (h : Ints w v xs) : Ints w.drew v xs := h.below (Below.refl _ _).drew
theorem Ints.drewN {w : World} {v : Value} {xs : List Int} (h : Ints w v xs) (n : Nat) : Ints (w.drewN n) v xs := h.below (below_drewN (Below.refl _ _) n)
theorem Ints.alloc {w : World} {v : Value} {xs : List Int} (h : Ints w v xs) (o : Obj) : Ints (w.alloc o) v xs := h.below ((Below.refl _ _).alloc (Nat.le_refl _) o)

/-- A new block of ints, as a slice. -/
theorem ints_new (w : World) (l : List Int) (t : TypeId) (hl : (l.length : Int) ≤ 9223372036854775807) :
    Ints (w.alloc (.cells (l.map (Value.int .i64)).toArray t)) (.slice (some ⟨w.heap.size, 0, none⟩) l.length l.length) l := by
  refine ⟨_, _, rfl, Nat.le_refl _, hl, fun _ => ⟨w.heap.size, 0, rfl, fun j hj => ?_⟩⟩
  rw [World.cell?_alloc_new]
  simp [List.getD, hj]

/-- v[:c] -/
theorem slice_take {P : Program} {T : TypeId} (hT : P.underlying T = some (.slice (P.elem T))) (hE : ∀ w, (sizeOf (P.elem T)).run P w = .ok 1 w) {w : World} {v : Value} {xs : List Int} (h : Ints w v xs) (c : Int) (h0 : 0 ≤ c) (h1 : c ≤ xs.length) :
    ∃ V, (∀ w', (Instr.slice T v none (some (.int .i64 c)) none).run P w' = .ok V w') ∧ Ints w V (xs.take c.toNat) := by
  obtain ⟨a, cap, rfl, hc1, hm, hc⟩ := h
  have hl : (xs.take c.toNat).length = c.toNat := by simp; omega
  refine ⟨.slice a c.toNat cap, fun w' => ?_, a, cap, by rw [hl], by omega, by omega, fun hp => ?_⟩
  · rw [run_slice_h w' T a _ cap hT .i64 c h0 (by omega), hE]
    simp [Result.andThen, sliced]
    intro _
    cases a <;> simp [Addr.add]
  · obtain ⟨b, off, rfl, hcs⟩ := hc (by omega)
    refine ⟨b, off, rfl, fun j hj => ?_⟩
    rw [hcs j (by omega)]
    have h2 : j < c.toNat := by omega
    simp [List.getD, h2]

/-- v[c:] -/
theorem slice_drop {P : Program} {T : TypeId} (hT : P.underlying T = some (.slice (P.elem T))) (hE : ∀ w, (sizeOf (P.elem T)).run P w = .ok 1 w) {w : World} {v : Value} {xs : List Int} (h : Ints w v xs) (c : Int) (h0 : 0 ≤ c) (h1 : c ≤ xs.length) :
    ∃ V, (∀ w', (Instr.slice T v (some (.int .i64 c)) none none).run P w' = .ok V w') ∧ Ints w V (xs.drop c.toNat) := by
  obtain ⟨a, cap, rfl, hc1, hm, hc⟩ := h
  have hl : (xs.drop c.toNat).length = xs.length - c.toNat := by simp
  refine ⟨.slice (if cap = c.toNat then a else a.map (·.add (c.toNat * 1))) (xs.length - c.toNat) (cap - c.toNat), fun w' => ?_, _, _, by rw [hl], by omega, by omega, fun hp => ?_⟩
  · rw [run_slice_l w' T a _ cap hT .i64 c h0 h1, hE]
    simp [Result.andThen, sliced]
  · obtain ⟨b, off, rfl, hcs⟩ := hc (by omega)
    rw [if_neg (by omega)]
    refine ⟨b, off + c.toNat, ?_, fun j hj => ?_⟩
    · by_cases hz : c.toNat = 0
      · simp [Addr.add, hz]
      · simp [Addr.add, hz]
    · rw [Nat.add_assoc, hcs (c.toNat + j) (by omega)]
      simp [List.getD]

set_option maxHeartbeats 400000 in
theorem refRight_any (n : Int) (v : Value) (xs : List Int) (w : World) (h : Ints w v xs) :
    Calls Try.prog 12 #[.int .i64 n, v] w fun e w' => e = .returned (.bool (Mo.rightB n xs)) ∧ w = w' := by
  obtain ⟨a, cap, rfl, hcap, hmax, hc⟩ := h
  by_cases h1 : n < 0
  · have hf : Mo.rightB n xs = false := by simp [Mo.rightB]; omega
    have H := Lib.hid hf; clear hf
    go_enter Try.func12, Try.ntmps12
    go_wp2
    go_ret
    exact ⟨by rw [H.out]; rfl, rfl⟩
  · by_cases h2 : 6 < n
    · have hf : Mo.rightB n xs = false := by simp [Mo.rightB]; omega
      have H := Lib.hid hf; clear hf
      go_enter Try.func12, Try.ntmps12
      go_wp2
      go_ret
      exact ⟨by rw [H.out]; rfl, rfl⟩
    · by_cases h3 : (xs.length : Int) = n
      · have h3' : ((xs.length : Int) != n) = false := by simp [h3]
        have H3 := Lib.hid h3; clear h3
        go_enter Try.func12, Try.ntmps12
        go_wp2
        go_loop [5] (fun i => ∃ k : Nat, k ≤ xs.length ∧ i = .int .i64 k ∧ (xs.take k).all Mo.okE = true) (fun i => xs.length - (intOf i).toNat)
        case atStart => exact ⟨0, Nat.zero_le _, rfl, by simp⟩
        case round =>
          obtain ⟨k, hk, rfl, hall⟩ := hrel
          have HA := Lib.hid hall; clear hall
          by_cases hlt : k < xs.length
          · obtain ⟨b, off, rfl, hcell⟩ := hc (by omega)
            obtain ⟨x, hx⟩ : ∃ x, xs.getD k 0 = x := ⟨_, rfl⟩
            have hck := hcell k hlt
            rw [hx] at hck
            have HX := Lib.hid hx
            clear hcell hc hx
            have hlt' : (k : Int) < n := by rw [← H3.out]; omega
            by_cases hok : 0 ≤ x ∧ x ≤ 60
            · obtain ⟨ho1, ho2⟩ := hok
              go_wp2
              go_round
              case rel => exact ⟨k + 1, by omega, by go_num, by rw [Mo.all_take_succ _ _ _ hlt, HA.out, HX.out]; exact (Mo.okE_iff x).2 ⟨ho1, ho2⟩⟩
              case measure => simp [intOf]; omega
            · have hf : Mo.rightB n xs = false := by
                have h5 : (xs.take (k + 1)).all Mo.okE = false := by rw [Mo.all_take_succ _ _ _ hlt, HX.out, (Mo.okE_neg x).2 (by omega)]; simp
                simp [Mo.rightB, Mo.all_of_take _ _ _ h5]
              have H := Lib.hid hf; clear hf
              by_cases hneg : x < 0
              · go_wp2
                go_ret
                exact ⟨by rw [H.out]; rfl, rfl⟩
              · have hbig : 60 < x := by omega
                clear hok
                go_wp2
                go_ret
                exact ⟨by rw [H.out]; rfl, rfl⟩
          · have hlt' : ¬ (k : Int) < n := by rw [← H3.out]; omega
            have ht : Mo.rightB n xs = true := by
              have h6 : xs.take k = xs := List.take_of_length_le (by omega)
              have h7 := HA.out; rw [h6] at h7
              have h8 := H3.out
              simp only [Mo.rightB, h7, h8]
              simp; omega
            have H := Lib.hid ht; clear ht
            go_wp2
            go_ret
            exact ⟨by rw [H.out]; rfl, rfl⟩
      · have hf : Mo.rightB n xs = false := by simp [Mo.rightB]; omega
        have h3' : ((xs.length : Int) != n) = true := by simp [h3]
        have H := Lib.hid hf; clear hf
        go_enter Try.func12, Try.ntmps12
        go_wp2
        go_ret
        exact ⟨by rw [H.out]; rfl, rfl⟩

end Go.Proofs.Ytaidopbndlhpgaa
