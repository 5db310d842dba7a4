/-
  A slice of ints that came in.
-/
import Derived.Test.YtaidopbndlhpgaaMonoP
namespace Go.Proofs.Ytaidopbndlhpgaa
open Go.RowKit

theorem ints_nil (w : World) (a : Option Addr) (cap : Nat) : Ints w (.slice a 0 cap) [] := ⟨a, cap, rfl, Nat.zero_le _, by simp, fun h => by simp at h⟩

theorem ints_row {w : World} {x : Addr} {len cap : Nat} {zs : List Int} (hl : len ≤ cap) (hm : cap ≤ maxLen) (hz : zs.length = cap) (hc : ∀ i, i < zs.length → w.cell? (x.add i) = some (.int .i64 (zs.getD i 0))) :
    Ints w (.slice (some x) len cap) (zs.take len) := by
  have hlen : (zs.take len).length = len := by simp; omega
  refine ⟨some x, cap, by rw [hlen], by omega, by unfold maxLen at hm; omega, fun hp => ?_⟩
  obtain ⟨b, off, spot⟩ := x
  have h0 := hc 0 (by omega)
  have hspot : spot = none := by simpa [Addr.add] using World.cell?_spot h0
  subst hspot
  refine ⟨b, off, rfl, fun j hj => ?_⟩
  have h1 := hc j (by omega)
  have hadd : (⟨b, off, none⟩ : Addr).add j = ⟨b, off + j, none⟩ := by unfold Addr.add; split <;> simp_all
  rw [hadd] at h1
  rw [h1]
  have hj2 : j < len := by omega
  simp [List.getD, hj2]

end Go.Proofs.Ytaidopbndlhpgaa
