/-
  No cell of these rows narrows 'for every input' (looked for: loops, veiled, ifaces, maps, wideKeys, modest, calm, conditions, laid).
  DERIVED. THE GIVEN ROWS OF THIS SEAT. 7 by the template 'for every input the law returns true; each argument reads behind the call as it read before'; 0 by the template 'total and deterministic' (their statements: YtaidopbndlhpgaaTotals.lean).
  GIVEN WITH THE SEED: the statements are not yours to turn. If you find one false, say at which input.
  Laid BY PROGRAM, IN A SANDBOX (cutbox-rows.mjs): the forced cells as the released guide's own fill.sh prints them over the translation a1e008f7903af42c… (all of the seat's roots in one cut). By AI agents, Wed Nov 11 2026. No macro, syntax, notation, axiom, sorry.
-/
import Derived.Test.YtaidopbndlhpgaaChecked
import GoSem.Claim
import GoSem.ClaimJoined
import GoSem.ClaimMapViews
import Derived.JoinedTies
import Derived.KernelRfl
namespace Go.Proofs.Ytaidopbndlhpgaa
/- THE CELL 'sum', in the pinned program and in every row, IS THE sha256 OF THE DUMP (.gsa) THAT YtaidopbndlhpgaaProg.lean LOADS. Nothing in Lean hashes anything: it is a label: what it is worth is what the hold of that sum in a sandbox is worth. -/
noncomputable def Try.pinned : Pinned := { name := "ytaidopbndlhpgaa", sum := "a1e008f7903af42c60fc0cdb3990090981fde7a6862f0f37d0c6a77e91e0cb38", checked := Try.checked }
namespace Rows
def none {H : Type} : Left H := { results := [], args := [] }

/-- 'algebristlaw24.MonoRight': WHATEVER THE INPUT: true; the input reads as it did. -/
def monoRightSpec : ChangeSpec := { name := "monoRight", fn := fun _ => fun
  | [d1, d2, d3] => { results := [.lit (.bool true)], args := [d1, d2, d3] }
  | _ => none }
def monoRightRow : OpenClaim := { program := "ytaidopbndlhpgaa", sum := "a1e008f7903af42c60fc0cdb3990090981fde7a6862f0f37d0c6a77e91e0cb38", func := "algebrist/algebristlaw24.MonoRight", spec := "monoRight", unfollowed := true, recurses := true, apart := false }
def MonoRightSaid : Prop := monoRightRow.holds Try.pinned (OpenSpec.ofChange monoRightSpec)

/-- ITS FALSE NEIGHBOUR: 'it returns false'. Refute it at one input. -/
def monoRightWrong : ChangeSpec := { name := "monoRight", fn := fun _ => fun
  | [d1, d2, d3] => { results := [.lit (.bool false)], args := [d1, d2, d3] }
  | _ => none }
def MonoRightWrongFalsely : Prop := monoRightRow.holds Try.pinned (OpenSpec.ofChange monoRightWrong)

/-- 'algebristlaw24.MonoCmp': WHATEVER THE INPUT: true; the input reads as it did. -/
def monoCmpSpec : ChangeSpec := { name := "monoCmp", fn := fun _ => fun
  | [d1, d2, d3] => { results := [.lit (.bool true)], args := [d1, d2, d3] }
  | _ => none }
def monoCmpRow : OpenClaim := { program := "ytaidopbndlhpgaa", sum := "a1e008f7903af42c60fc0cdb3990090981fde7a6862f0f37d0c6a77e91e0cb38", func := "algebrist/algebristlaw24.MonoCmp", spec := "monoCmp", unfollowed := true, recurses := true, apart := false }
def MonoCmpSaid : Prop := monoCmpRow.holds Try.pinned (OpenSpec.ofChange monoCmpSpec)

/-- ITS FALSE NEIGHBOUR: 'it returns false'. Refute it at one input. -/
def monoCmpWrong : ChangeSpec := { name := "monoCmp", fn := fun _ => fun
  | [d1, d2, d3] => { results := [.lit (.bool false)], args := [d1, d2, d3] }
  | _ => none }
def MonoCmpWrongFalsely : Prop := monoCmpRow.holds Try.pinned (OpenSpec.ofChange monoCmpWrong)

/-- 'algebristlaw24.MonoOrder': WHATEVER THE INPUT: true; the input reads as it did. -/
def monoOrderSpec : ChangeSpec := { name := "monoOrder", fn := fun _ => fun
  | [d1, d2, d3, d4] => { results := [.lit (.bool true)], args := [d1, d2, d3, d4] }
  | _ => none }
def monoOrderRow : OpenClaim := { program := "ytaidopbndlhpgaa", sum := "a1e008f7903af42c60fc0cdb3990090981fde7a6862f0f37d0c6a77e91e0cb38", func := "algebrist/algebristlaw24.MonoOrder", spec := "monoOrder", unfollowed := true, recurses := true, apart := false }
def MonoOrderSaid : Prop := monoOrderRow.holds Try.pinned (OpenSpec.ofChange monoOrderSpec)

/-- ITS FALSE NEIGHBOUR: 'it returns false'. Refute it at one input. -/
def monoOrderWrong : ChangeSpec := { name := "monoOrder", fn := fun _ => fun
  | [d1, d2, d3, d4] => { results := [.lit (.bool false)], args := [d1, d2, d3, d4] }
  | _ => none }
def MonoOrderWrongFalsely : Prop := monoOrderRow.holds Try.pinned (OpenSpec.ofChange monoOrderWrong)

/-- 'algebristlaw24.MonoBlock': WHATEVER THE INPUT: true; the input reads as it did. -/
def monoBlockSpec : ChangeSpec := { name := "monoBlock", fn := fun _ => fun
  | [d1, d2, d3] => { results := [.lit (.bool true)], args := [d1, d2, d3] }
  | _ => none }
def monoBlockRow : OpenClaim := { program := "ytaidopbndlhpgaa", sum := "a1e008f7903af42c60fc0cdb3990090981fde7a6862f0f37d0c6a77e91e0cb38", func := "algebrist/algebristlaw24.MonoBlock", spec := "monoBlock", unfollowed := true, recurses := true, apart := false }
def MonoBlockSaid : Prop := monoBlockRow.holds Try.pinned (OpenSpec.ofChange monoBlockSpec)

/-- ITS FALSE NEIGHBOUR: 'it returns false'. Refute it at one input. -/
def monoBlockWrong : ChangeSpec := { name := "monoBlock", fn := fun _ => fun
  | [d1, d2, d3] => { results := [.lit (.bool false)], args := [d1, d2, d3] }
  | _ => none }
def MonoBlockWrongFalsely : Prop := monoBlockRow.holds Try.pinned (OpenSpec.ofChange monoBlockWrong)

/-- 'algebristlaw24.MonoKeeps': WHATEVER THE INPUT: true; the input reads as it did. -/
def monoKeepsSpec : ChangeSpec := { name := "monoKeeps", fn := fun _ => fun
  | [d1, d2, d3, d4] => { results := [.lit (.bool true)], args := [d1, d2, d3, d4] }
  | _ => none }
def monoKeepsRow : OpenClaim := { program := "ytaidopbndlhpgaa", sum := "a1e008f7903af42c60fc0cdb3990090981fde7a6862f0f37d0c6a77e91e0cb38", func := "algebrist/algebristlaw24.MonoKeeps", spec := "monoKeeps", unfollowed := true, recurses := true, apart := false }
def MonoKeepsSaid : Prop := monoKeepsRow.holds Try.pinned (OpenSpec.ofChange monoKeepsSpec)

/-- ITS FALSE NEIGHBOUR: 'it returns false'. Refute it at one input. -/
def monoKeepsWrong : ChangeSpec := { name := "monoKeeps", fn := fun _ => fun
  | [d1, d2, d3, d4] => { results := [.lit (.bool false)], args := [d1, d2, d3, d4] }
  | _ => none }
def MonoKeepsWrongFalsely : Prop := monoKeepsRow.holds Try.pinned (OpenSpec.ofChange monoKeepsWrong)

/-- 'algebristlaw24.MonoTimes': WHATEVER THE INPUT: true; the input reads as it did. -/
def monoTimesSpec : ChangeSpec := { name := "monoTimes", fn := fun _ => fun
  | [d1, d2] => { results := [.lit (.bool true)], args := [d1, d2] }
  | _ => none }
def monoTimesRow : OpenClaim := { program := "ytaidopbndlhpgaa", sum := "a1e008f7903af42c60fc0cdb3990090981fde7a6862f0f37d0c6a77e91e0cb38", func := "algebrist/algebristlaw24.MonoTimes", spec := "monoTimes", unfollowed := true, recurses := true, apart := false }
def MonoTimesSaid : Prop := monoTimesRow.holds Try.pinned (OpenSpec.ofChange monoTimesSpec)

/-- ITS FALSE NEIGHBOUR: 'it returns false'. Refute it at one input. -/
def monoTimesWrong : ChangeSpec := { name := "monoTimes", fn := fun _ => fun
  | [d1, d2] => { results := [.lit (.bool false)], args := [d1, d2] }
  | _ => none }
def MonoTimesWrongFalsely : Prop := monoTimesRow.holds Try.pinned (OpenSpec.ofChange monoTimesWrong)

/-- 'algebristlaw24.MonoLattice': WHATEVER THE INPUT: true; the input reads as it did. -/
def monoLatticeSpec : ChangeSpec := { name := "monoLattice", fn := fun _ => fun
  | [d1, d2] => { results := [.lit (.bool true)], args := [d1, d2] }
  | _ => none }
def monoLatticeRow : OpenClaim := { program := "ytaidopbndlhpgaa", sum := "a1e008f7903af42c60fc0cdb3990090981fde7a6862f0f37d0c6a77e91e0cb38", func := "algebrist/algebristlaw24.MonoLattice", spec := "monoLattice", unfollowed := true, recurses := true, apart := false }
def MonoLatticeSaid : Prop := monoLatticeRow.holds Try.pinned (OpenSpec.ofChange monoLatticeSpec)

/-- ITS FALSE NEIGHBOUR: 'it returns false'. Refute it at one input. -/
def monoLatticeWrong : ChangeSpec := { name := "monoLattice", fn := fun _ => fun
  | [d1, d2] => { results := [.lit (.bool false)], args := [d1, d2] }
  | _ => none }
def MonoLatticeWrongFalsely : Prop := monoLatticeRow.holds Try.pinned (OpenSpec.ofChange monoLatticeWrong)

/- THE SECOND FORM. 'bulk': how many values and letters a reading holds, each counted each time it is reached (what is shared counts as often as it is met; a slice's spare places count too). A statement '..UptoSaid' is the law's where the arguments, and the package variables that the reading takes, are together of bulk at most 1048576: NARROWER than '..Said'. Prove '..Said' where nothing that the law and all that it calls make is longer than what came in: it says more and counts as full. Else prove '..UptoSaid'. A law counts once. -/
mutual
def uptoBulk {H : Type} : DataW H → Nat
  | .lit (.string bytes) => bytes.length + 1
  | .lit _ => 1
  | .nil => 1
  | .ptr d => uptoBulk d + 1
  | .slice elems spare => uptoBulkAll elems + uptoBulkAll spare + 1
  | .agg parts => uptoBulkAll parts + 1
  | .iface _ d => uptoBulk d + 1
  | .map entries => uptoBulkEntries entries + 1
  | .held _ => 1
def uptoBulkAll {H : Type} : List (DataW H) → Nat
  | [] => 0
  | d :: r => uptoBulk d + uptoBulkAll r
def uptoBulkEntries {H : Type} : List (Lit × DataW H) → Nat
  | [] => 0
  | x :: r => uptoBulkEntry x + uptoBulkEntries r
def uptoBulkEntry {H : Type} : Lit × DataW H → Nat
  | (.string bytes, d) => bytes.length + uptoBulk d + 1
  | (_, d) => uptoBulk d + 1
 end
def uptoSmall : (H : Type) → List (DataW H) → Bool := fun _ ds => decide (uptoBulkAll ds ≤ 1048576)
def OpenSpec.upto (s : _root_.Go.ChangeSpec) : _root_.Go.OpenSpec := { _root_.Go.OpenSpec.ofChange s with cond := some uptoSmall }

/-- 'algebristlaw24.MonoRight', WHERE WHAT IT READS IS OF BULK AT MOST 1048576: true; the input reads as it did. -/
def monoRightUptoRow : OpenClaim := { program := "ytaidopbndlhpgaa", sum := "a1e008f7903af42c60fc0cdb3990090981fde7a6862f0f37d0c6a77e91e0cb38", func := "algebrist/algebristlaw24.MonoRight", spec := "monoRight", unfollowed := true, recurses := true, apart := false, narrowed := true }
def MonoRightUptoSaid : Prop := monoRightUptoRow.holds Try.pinned (OpenSpec.upto monoRightSpec)

/-- 'algebristlaw24.MonoCmp', WHERE WHAT IT READS IS OF BULK AT MOST 1048576: true; the input reads as it did. -/
def monoCmpUptoRow : OpenClaim := { program := "ytaidopbndlhpgaa", sum := "a1e008f7903af42c60fc0cdb3990090981fde7a6862f0f37d0c6a77e91e0cb38", func := "algebrist/algebristlaw24.MonoCmp", spec := "monoCmp", unfollowed := true, recurses := true, apart := false, narrowed := true }
def MonoCmpUptoSaid : Prop := monoCmpUptoRow.holds Try.pinned (OpenSpec.upto monoCmpSpec)

/-- 'algebristlaw24.MonoOrder', WHERE WHAT IT READS IS OF BULK AT MOST 1048576: true; the input reads as it did. -/
def monoOrderUptoRow : OpenClaim := { program := "ytaidopbndlhpgaa", sum := "a1e008f7903af42c60fc0cdb3990090981fde7a6862f0f37d0c6a77e91e0cb38", func := "algebrist/algebristlaw24.MonoOrder", spec := "monoOrder", unfollowed := true, recurses := true, apart := false, narrowed := true }
def MonoOrderUptoSaid : Prop := monoOrderUptoRow.holds Try.pinned (OpenSpec.upto monoOrderSpec)

/-- 'algebristlaw24.MonoBlock', WHERE WHAT IT READS IS OF BULK AT MOST 1048576: true; the input reads as it did. -/
def monoBlockUptoRow : OpenClaim := { program := "ytaidopbndlhpgaa", sum := "a1e008f7903af42c60fc0cdb3990090981fde7a6862f0f37d0c6a77e91e0cb38", func := "algebrist/algebristlaw24.MonoBlock", spec := "monoBlock", unfollowed := true, recurses := true, apart := false, narrowed := true }
def MonoBlockUptoSaid : Prop := monoBlockUptoRow.holds Try.pinned (OpenSpec.upto monoBlockSpec)

/-- 'algebristlaw24.MonoKeeps', WHERE WHAT IT READS IS OF BULK AT MOST 1048576: true; the input reads as it did. -/
def monoKeepsUptoRow : OpenClaim := { program := "ytaidopbndlhpgaa", sum := "a1e008f7903af42c60fc0cdb3990090981fde7a6862f0f37d0c6a77e91e0cb38", func := "algebrist/algebristlaw24.MonoKeeps", spec := "monoKeeps", unfollowed := true, recurses := true, apart := false, narrowed := true }
def MonoKeepsUptoSaid : Prop := monoKeepsUptoRow.holds Try.pinned (OpenSpec.upto monoKeepsSpec)

/-- 'algebristlaw24.MonoTimes', WHERE WHAT IT READS IS OF BULK AT MOST 1048576: true; the input reads as it did. -/
def monoTimesUptoRow : OpenClaim := { program := "ytaidopbndlhpgaa", sum := "a1e008f7903af42c60fc0cdb3990090981fde7a6862f0f37d0c6a77e91e0cb38", func := "algebrist/algebristlaw24.MonoTimes", spec := "monoTimes", unfollowed := true, recurses := true, apart := false, narrowed := true }
def MonoTimesUptoSaid : Prop := monoTimesUptoRow.holds Try.pinned (OpenSpec.upto monoTimesSpec)

/-- 'algebristlaw24.MonoLattice', WHERE WHAT IT READS IS OF BULK AT MOST 1048576: true; the input reads as it did. -/
def monoLatticeUptoRow : OpenClaim := { program := "ytaidopbndlhpgaa", sum := "a1e008f7903af42c60fc0cdb3990090981fde7a6862f0f37d0c6a77e91e0cb38", func := "algebrist/algebristlaw24.MonoLattice", spec := "monoLattice", unfollowed := true, recurses := true, apart := false, narrowed := true }
def MonoLatticeUptoSaid : Prop := monoLatticeUptoRow.holds Try.pinned (OpenSpec.upto monoLatticeSpec)

end Rows
end Go.Proofs.Ytaidopbndlhpgaa
