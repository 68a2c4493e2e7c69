/-
  No cell of these rows narrows 'for every input' (looked for: loops, veiled, ifaces, maps, wideKeys, modest, calm, conditions, laid).
  DERIVED. THE GIVEN ROWS OF THIS SEAT. 2 by the template 'for every input the law returns true; each argument reads behind the call as it read before'; 0 by the template 'total and deterministic' (their statements: YtgaekihcfcoaeaaTotals.lean).
  GIVEN WITH THE SEED: the statements are not yours to turn. If you find one false, say at which input.
  Laid BY PROGRAM, IN A SANDBOX (cutbox-rows.mjs): the forced cells as the released guide's own fill.sh prints them over the translation 6732029ee402735b… (all of the seat's roots in one cut). By AI agents, Wed Nov 11 2026. No macro, syntax, notation, axiom, sorry.
-/
import Derived.Test.YtgaekihcfcoaeaaChecked
import GoSem.Claim
import GoSem.ClaimJoined
import GoSem.ClaimMapViews
import Derived.JoinedTies
import Derived.KernelRfl
namespace Go.Proofs.Ytgaekihcfcoaeaa
/- THE CELL 'sum', in the pinned program and in every row, IS THE sha256 OF THE DUMP (.gsa) THAT YtgaekihcfcoaeaaProg.lean LOADS. Nothing in Lean hashes anything: it is a label: what it is worth is what the hold of that sum in a sandbox is worth. -/
noncomputable def Try.pinned : Pinned := { name := "ytgaekihcfcoaeaa", sum := "6732029ee402735bcbe3f514cf0a8765d7e0e2bac89b02f07c9c3fdcf71a81ba", checked := Try.checked }
namespace Rows
def none {H : Type} : Left H := { results := [], args := [] }

/-- 'quittancelaw04.AdjKeeps': WHATEVER THE INPUT: true; the input reads as it did. -/
def adjKeepsSpec : ChangeSpec := { name := "adjKeeps", fn := fun _ => fun
  | [d1, d2, d3] => { results := [.lit (.bool true)], args := [d1, d2, d3] }
  | _ => none }
def adjKeepsRow : OpenClaim := { program := "ytgaekihcfcoaeaa", sum := "6732029ee402735bcbe3f514cf0a8765d7e0e2bac89b02f07c9c3fdcf71a81ba", func := "quittance/quittancelaw04.AdjKeeps", spec := "adjKeeps", unfollowed := true, recurses := true, apart := false }
def AdjKeepsSaid : Prop := adjKeepsRow.holds Try.pinned (OpenSpec.ofChange adjKeepsSpec)

/-- ITS FALSE NEIGHBOUR: 'it returns false'. Refute it at one input. -/
def adjKeepsWrong : ChangeSpec := { name := "adjKeeps", fn := fun _ => fun
  | [d1, d2, d3] => { results := [.lit (.bool false)], args := [d1, d2, d3] }
  | _ => none }
def AdjKeepsWrongFalsely : Prop := adjKeepsRow.holds Try.pinned (OpenSpec.ofChange adjKeepsWrong)

/-- 'quittancelaw04.AdjMore': WHATEVER THE INPUT: true; the input reads as it did. -/
def adjMoreSpec : ChangeSpec := { name := "adjMore", fn := fun _ => fun
  | [d1, d2, d3, d4] => { results := [.lit (.bool true)], args := [d1, d2, d3, d4] }
  | _ => none }
def adjMoreRow : OpenClaim := { program := "ytgaekihcfcoaeaa", sum := "6732029ee402735bcbe3f514cf0a8765d7e0e2bac89b02f07c9c3fdcf71a81ba", func := "quittance/quittancelaw04.AdjMore", spec := "adjMore", unfollowed := true, recurses := true, apart := false }
def AdjMoreSaid : Prop := adjMoreRow.holds Try.pinned (OpenSpec.ofChange adjMoreSpec)

/-- ITS FALSE NEIGHBOUR: 'it returns false'. Refute it at one input. -/
def adjMoreWrong : ChangeSpec := { name := "adjMore", fn := fun _ => fun
  | [d1, d2, d3, d4] => { results := [.lit (.bool false)], args := [d1, d2, d3, d4] }
  | _ => none }
def AdjMoreWrongFalsely : Prop := adjMoreRow.holds Try.pinned (OpenSpec.ofChange adjMoreWrong)

/- THE SECOND FORM. 'bulk': how many values and letters a reading holds, each counted each time it is reached (what is shared counts as often as it is met; a slice's spare places count too). A statement '..UptoSaid' is the law's where the arguments, and the package variables that the reading takes, are together of bulk at most 1048576: NARROWER than '..Said'. Prove '..Said' where nothing that the law and all that it calls make is longer than what came in: it says more and counts as full. Else prove '..UptoSaid'. A law counts once. -/
mutual
def uptoBulk {H : Type} : DataW H → Nat
  | .lit (.string bytes) => bytes.length + 1
  | .lit _ => 1
  | .nil => 1
  | .ptr d => uptoBulk d + 1
  | .slice elems spare => uptoBulkAll elems + uptoBulkAll spare + 1
  | .agg parts => uptoBulkAll parts + 1
  | .iface _ d => uptoBulk d + 1
  | .map entries => uptoBulkEntries entries + 1
  | .held _ => 1
def uptoBulkAll {H : Type} : List (DataW H) → Nat
  | [] => 0
  | d :: r => uptoBulk d + uptoBulkAll r
def uptoBulkEntries {H : Type} : List (Lit × DataW H) → Nat
  | [] => 0
  | x :: r => uptoBulkEntry x + uptoBulkEntries r
def uptoBulkEntry {H : Type} : Lit × DataW H → Nat
  | (.string bytes, d) => bytes.length + uptoBulk d + 1
  | (_, d) => uptoBulk d + 1
 end
def uptoSmall : (H : Type) → List (DataW H) → Bool := fun _ ds => decide (uptoBulkAll ds ≤ 1048576)
def OpenSpec.upto (s : _root_.Go.ChangeSpec) : _root_.Go.OpenSpec := { _root_.Go.OpenSpec.ofChange s with cond := some uptoSmall }

/-- 'quittancelaw04.AdjKeeps', WHERE WHAT IT READS IS OF BULK AT MOST 1048576: true; the input reads as it did. -/
def adjKeepsUptoRow : OpenClaim := { program := "ytgaekihcfcoaeaa", sum := "6732029ee402735bcbe3f514cf0a8765d7e0e2bac89b02f07c9c3fdcf71a81ba", func := "quittance/quittancelaw04.AdjKeeps", spec := "adjKeeps", unfollowed := true, recurses := true, apart := false, narrowed := true }
def AdjKeepsUptoSaid : Prop := adjKeepsUptoRow.holds Try.pinned (OpenSpec.upto adjKeepsSpec)

/-- 'quittancelaw04.AdjMore', WHERE WHAT IT READS IS OF BULK AT MOST 1048576: true; the input reads as it did. -/
def adjMoreUptoRow : OpenClaim := { program := "ytgaekihcfcoaeaa", sum := "6732029ee402735bcbe3f514cf0a8765d7e0e2bac89b02f07c9c3fdcf71a81ba", func := "quittance/quittancelaw04.AdjMore", spec := "adjMore", unfollowed := true, recurses := true, apart := false, narrowed := true }
def AdjMoreUptoSaid : Prop := adjMoreUptoRow.holds Try.pinned (OpenSpec.upto adjMoreSpec)

end Rows
end Go.Proofs.Ytgaekihcfcoaeaa
