/-
  No cell of these rows narrows 'for every input' (looked for: loops, veiled, ifaces, maps, wideKeys, modest, calm, conditions, laid).
  DERIVED. THE GIVEN ROWS OF THIS SEAT. 5 by the template 'for every input the law returns true; each argument reads behind the call as it read before'; 0 by the template 'total and deterministic' (their statements: YtincgkcmfhhofaaTotals.lean).
  GIVEN WITH THE SEED: the statements are not yours to turn. If you find one false, say at which input.
  Laid BY PROGRAM, IN A SANDBOX (cutbox-rows.mjs): the forced cells as the released guide's own fill.sh prints them over the translation 5e548935349fb5d8… (all of the seat's roots in one cut). By AI agents, Wed Nov 11 2026. No macro, syntax, notation, axiom, sorry.
-/
import Derived.Test.YtincgkcmfhhofaaChecked
import GoSem.Claim
import GoSem.ClaimJoined
import GoSem.ClaimMapViews
import Derived.JoinedTies
import Derived.KernelRfl
namespace Go.Proofs.Ytincgkcmfhhofaa
/- THE CELL 'sum', in the pinned program and in every row, IS THE sha256 OF THE DUMP (.gsa) THAT YtincgkcmfhhofaaProg.lean LOADS. Nothing in Lean hashes anything: it is a label: what it is worth is what the hold of that sum in a sandbox is worth. -/
noncomputable def Try.pinned : Pinned := { name := "ytincgkcmfhhofaa", sum := "5e548935349fb5d8fb2a652e4706130dd5af8d53fe7b427989aaba08e4e973ea", checked := Try.checked }
namespace Rows
def none {H : Type} : Left H := { results := [], args := [] }

/-- 'quittancelaw05.UniteOrder': WHATEVER THE INPUT: true; the input reads as it did. -/
def uniteOrderSpec : ChangeSpec := { name := "uniteOrder", fn := fun _ => fun
  | [d1, d2] => { results := [.lit (.bool true)], args := [d1, d2] }
  | _ => none }
def uniteOrderRow : OpenClaim := { program := "ytincgkcmfhhofaa", sum := "5e548935349fb5d8fb2a652e4706130dd5af8d53fe7b427989aaba08e4e973ea", func := "quittance/quittancelaw05.UniteOrder", spec := "uniteOrder", apart := false }
def UniteOrderSaid : Prop := uniteOrderRow.holds Try.pinned (OpenSpec.ofChange uniteOrderSpec)

/-- ITS FALSE NEIGHBOUR: 'it returns false'. Refute it at one input. -/
def uniteOrderWrong : ChangeSpec := { name := "uniteOrder", fn := fun _ => fun
  | [d1, d2] => { results := [.lit (.bool false)], args := [d1, d2] }
  | _ => none }
def UniteOrderWrongFalsely : Prop := uniteOrderRow.holds Try.pinned (OpenSpec.ofChange uniteOrderWrong)

/-- 'quittancelaw05.UniteStars': WHATEVER THE INPUT: true; the input reads as it did. -/
def uniteStarsSpec : ChangeSpec := { name := "uniteStars", fn := fun _ => fun
  | [d1, d2] => { results := [.lit (.bool true)], args := [d1, d2] }
  | _ => none }
def uniteStarsRow : OpenClaim := { program := "ytincgkcmfhhofaa", sum := "5e548935349fb5d8fb2a652e4706130dd5af8d53fe7b427989aaba08e4e973ea", func := "quittance/quittancelaw05.UniteStars", spec := "uniteStars", apart := false }
def UniteStarsSaid : Prop := uniteStarsRow.holds Try.pinned (OpenSpec.ofChange uniteStarsSpec)

/-- ITS FALSE NEIGHBOUR: 'it returns false'. Refute it at one input. -/
def uniteStarsWrong : ChangeSpec := { name := "uniteStars", fn := fun _ => fun
  | [d1, d2] => { results := [.lit (.bool false)], args := [d1, d2] }
  | _ => none }
def UniteStarsWrongFalsely : Prop := uniteStarsRow.holds Try.pinned (OpenSpec.ofChange uniteStarsWrong)

/-- 'quittancelaw05.UniteDoes': WHATEVER THE INPUT: true; the input reads as it did. -/
def uniteDoesSpec : ChangeSpec := { name := "uniteDoes", fn := fun _ => fun
  | [d1, d2, d3, d4] => { results := [.lit (.bool true)], args := [d1, d2, d3, d4] }
  | _ => none }
def uniteDoesRow : OpenClaim := { program := "ytincgkcmfhhofaa", sum := "5e548935349fb5d8fb2a652e4706130dd5af8d53fe7b427989aaba08e4e973ea", func := "quittance/quittancelaw05.UniteDoes", spec := "uniteDoes", apart := false }
def UniteDoesSaid : Prop := uniteDoesRow.holds Try.pinned (OpenSpec.ofChange uniteDoesSpec)

/-- ITS FALSE NEIGHBOUR: 'it returns false'. Refute it at one input. -/
def uniteDoesWrong : ChangeSpec := { name := "uniteDoes", fn := fun _ => fun
  | [d1, d2, d3, d4] => { results := [.lit (.bool false)], args := [d1, d2, d3, d4] }
  | _ => none }
def UniteDoesWrongFalsely : Prop := uniteDoesRow.holds Try.pinned (OpenSpec.ofChange uniteDoesWrong)

/-- 'quittancelaw05.UniteParts': WHATEVER THE INPUT: true; the input reads as it did. -/
def unitePartsSpec : ChangeSpec := { name := "uniteParts", fn := fun _ => fun
  | [d1, d2] => { results := [.lit (.bool true)], args := [d1, d2] }
  | _ => none }
def unitePartsRow : OpenClaim := { program := "ytincgkcmfhhofaa", sum := "5e548935349fb5d8fb2a652e4706130dd5af8d53fe7b427989aaba08e4e973ea", func := "quittance/quittancelaw05.UniteParts", spec := "uniteParts", apart := false }
def UnitePartsSaid : Prop := unitePartsRow.holds Try.pinned (OpenSpec.ofChange unitePartsSpec)

/-- ITS FALSE NEIGHBOUR: 'it returns false'. Refute it at one input. -/
def unitePartsWrong : ChangeSpec := { name := "uniteParts", fn := fun _ => fun
  | [d1, d2] => { results := [.lit (.bool false)], args := [d1, d2] }
  | _ => none }
def UnitePartsWrongFalsely : Prop := unitePartsRow.holds Try.pinned (OpenSpec.ofChange unitePartsWrong)

/-- 'quittancelaw05.UniteNone': WHATEVER THE INPUT: true; the input reads as it did. -/
def uniteNoneSpec : ChangeSpec := { name := "uniteNone", fn := fun _ => fun
  | [d1, d2, d3] => { results := [.lit (.bool true)], args := [d1, d2, d3] }
  | _ => none }
def uniteNoneRow : OpenClaim := { program := "ytincgkcmfhhofaa", sum := "5e548935349fb5d8fb2a652e4706130dd5af8d53fe7b427989aaba08e4e973ea", func := "quittance/quittancelaw05.UniteNone", spec := "uniteNone", apart := false }
def UniteNoneSaid : Prop := uniteNoneRow.holds Try.pinned (OpenSpec.ofChange uniteNoneSpec)

/-- ITS FALSE NEIGHBOUR: 'it returns false'. Refute it at one input. -/
def uniteNoneWrong : ChangeSpec := { name := "uniteNone", fn := fun _ => fun
  | [d1, d2, d3] => { results := [.lit (.bool false)], args := [d1, d2, d3] }
  | _ => none }
def UniteNoneWrongFalsely : Prop := uniteNoneRow.holds Try.pinned (OpenSpec.ofChange uniteNoneWrong)

/- THE SECOND FORM. 'bulk': how many values and letters a reading holds, each counted each time it is reached (what is shared counts as often as it is met; a slice's spare places count too). A statement '..UptoSaid' is the law's where the arguments, and the package variables that the reading takes, are together of bulk at most 1048576: NARROWER than '..Said'. Prove '..Said' where nothing that the law and all that it calls make is longer than what came in: it says more and counts as full. Else prove '..UptoSaid'. A law counts once. -/
mutual
def uptoBulk {H : Type} : DataW H → Nat
  | .lit (.string bytes) => bytes.length + 1
  | .lit _ => 1
  | .nil => 1
  | .ptr d => uptoBulk d + 1
  | .slice elems spare => uptoBulkAll elems + uptoBulkAll spare + 1
  | .agg parts => uptoBulkAll parts + 1
  | .iface _ d => uptoBulk d + 1
  | .map entries => uptoBulkEntries entries + 1
  | .held _ => 1
def uptoBulkAll {H : Type} : List (DataW H) → Nat
  | [] => 0
  | d :: r => uptoBulk d + uptoBulkAll r
def uptoBulkEntries {H : Type} : List (Lit × DataW H) → Nat
  | [] => 0
  | x :: r => uptoBulkEntry x + uptoBulkEntries r
def uptoBulkEntry {H : Type} : Lit × DataW H → Nat
  | (.string bytes, d) => bytes.length + uptoBulk d + 1
  | (_, d) => uptoBulk d + 1
 end
def uptoSmall : (H : Type) → List (DataW H) → Bool := fun _ ds => decide (uptoBulkAll ds ≤ 1048576)
def OpenSpec.upto (s : _root_.Go.ChangeSpec) : _root_.Go.OpenSpec := { _root_.Go.OpenSpec.ofChange s with cond := some uptoSmall }

/-- 'quittancelaw05.UniteOrder', WHERE WHAT IT READS IS OF BULK AT MOST 1048576: true; the input reads as it did. -/
def uniteOrderUptoRow : OpenClaim := { program := "ytincgkcmfhhofaa", sum := "5e548935349fb5d8fb2a652e4706130dd5af8d53fe7b427989aaba08e4e973ea", func := "quittance/quittancelaw05.UniteOrder", spec := "uniteOrder", apart := false, narrowed := true }
def UniteOrderUptoSaid : Prop := uniteOrderUptoRow.holds Try.pinned (OpenSpec.upto uniteOrderSpec)

/-- 'quittancelaw05.UniteStars', WHERE WHAT IT READS IS OF BULK AT MOST 1048576: true; the input reads as it did. -/
def uniteStarsUptoRow : OpenClaim := { program := "ytincgkcmfhhofaa", sum := "5e548935349fb5d8fb2a652e4706130dd5af8d53fe7b427989aaba08e4e973ea", func := "quittance/quittancelaw05.UniteStars", spec := "uniteStars", apart := false, narrowed := true }
def UniteStarsUptoSaid : Prop := uniteStarsUptoRow.holds Try.pinned (OpenSpec.upto uniteStarsSpec)

/-- 'quittancelaw05.UniteDoes', WHERE WHAT IT READS IS OF BULK AT MOST 1048576: true; the input reads as it did. -/
def uniteDoesUptoRow : OpenClaim := { program := "ytincgkcmfhhofaa", sum := "5e548935349fb5d8fb2a652e4706130dd5af8d53fe7b427989aaba08e4e973ea", func := "quittance/quittancelaw05.UniteDoes", spec := "uniteDoes", apart := false, narrowed := true }
def UniteDoesUptoSaid : Prop := uniteDoesUptoRow.holds Try.pinned (OpenSpec.upto uniteDoesSpec)

/-- 'quittancelaw05.UniteParts', WHERE WHAT IT READS IS OF BULK AT MOST 1048576: true; the input reads as it did. -/
def unitePartsUptoRow : OpenClaim := { program := "ytincgkcmfhhofaa", sum := "5e548935349fb5d8fb2a652e4706130dd5af8d53fe7b427989aaba08e4e973ea", func := "quittance/quittancelaw05.UniteParts", spec := "uniteParts", apart := false, narrowed := true }
def UnitePartsUptoSaid : Prop := unitePartsUptoRow.holds Try.pinned (OpenSpec.upto unitePartsSpec)

/-- 'quittancelaw05.UniteNone', WHERE WHAT IT READS IS OF BULK AT MOST 1048576: true; the input reads as it did. -/
def uniteNoneUptoRow : OpenClaim := { program := "ytincgkcmfhhofaa", sum := "5e548935349fb5d8fb2a652e4706130dd5af8d53fe7b427989aaba08e4e973ea", func := "quittance/quittancelaw05.UniteNone", spec := "uniteNone", apart := false, narrowed := true }
def UniteNoneUptoSaid : Prop := uniteNoneUptoRow.holds Try.pinned (OpenSpec.upto uniteNoneSpec)

end Rows
end Go.Proofs.Ytincgkcmfhhofaa
