/-
  No cell of these rows narrows 'for every input' (looked for: loops, veiled, ifaces, maps, wideKeys, modest, calm, conditions, laid).
  DERIVED. THE GIVEN ROWS OF THIS SEAT. 3 by the template 'for every input the law returns true; each argument reads behind the call as it read before'; 0 by the template 'total and deterministic' (their statements: YtkbhilhefnahpaaTotals.lean).
  GIVEN WITH THE SEED: the statements are not yours to turn. If you find one false, say at which input.
  Laid BY PROGRAM, IN A SANDBOX (cutbox-rows.mjs): the forced cells as the released guide's own fill.sh prints them over the translation 3ca29da886ffec98… (all of the seat's roots in one cut). By AI agents, Wed Nov 11 2026. No macro, syntax, notation, axiom, sorry.
-/
import Derived.Test.YtkbhilhefnahpaaChecked
import GoSem.Claim
import GoSem.ClaimJoined
import GoSem.ClaimMapViews
import Derived.JoinedTies
import Derived.KernelRfl
namespace Go.Proofs.Ytkbhilhefnahpaa
/- THE CELL 'sum', in the pinned program and in every row, IS THE sha256 OF THE DUMP (.gsa) THAT YtkbhilhefnahpaaProg.lean LOADS. Nothing in Lean hashes anything: it is a label: what it is worth is what the hold of that sum in a sandbox is worth. -/
noncomputable def Try.pinned : Pinned := { name := "ytkbhilhefnahpaa", sum := "3ca29da886ffec9876a6553e1f850c924c00f434eeb55217a9895185e1308e5d", checked := Try.checked }
namespace Rows
def none {H : Type} : Left H := { results := [], args := [] }

/-- 'escritoirelaw08.ViewFresh': WHATEVER THE INPUT: true; the input reads as it did. -/
def viewFreshSpec : ChangeSpec := { name := "viewFresh", fn := fun _ => fun
  | [d1, d2] => { results := [.lit (.bool true)], args := [d1, d2] }
  | _ => none }
def viewFreshRow : OpenClaim := { program := "ytkbhilhefnahpaa", sum := "3ca29da886ffec9876a6553e1f850c924c00f434eeb55217a9895185e1308e5d", func := "escritoire/escritoirelaw08.ViewFresh", spec := "viewFresh", unfollowed := true, recurses := true, apart := false }
def ViewFreshSaid : Prop := viewFreshRow.holds Try.pinned (OpenSpec.ofChange viewFreshSpec)

/-- ITS FALSE NEIGHBOUR: 'it returns false'. Refute it at one input. -/
def viewFreshWrong : ChangeSpec := { name := "viewFresh", fn := fun _ => fun
  | [d1, d2] => { results := [.lit (.bool false)], args := [d1, d2] }
  | _ => none }
def ViewFreshWrongFalsely : Prop := viewFreshRow.holds Try.pinned (OpenSpec.ofChange viewFreshWrong)

/-- 'escritoirelaw08.ViewMakes': WHATEVER THE INPUT: true; the input reads as it did. -/
def viewMakesSpec : ChangeSpec := { name := "viewMakes", fn := fun _ => fun
  | [d1, d2] => { results := [.lit (.bool true)], args := [d1, d2] }
  | _ => none }
def viewMakesRow : OpenClaim := { program := "ytkbhilhefnahpaa", sum := "3ca29da886ffec9876a6553e1f850c924c00f434eeb55217a9895185e1308e5d", func := "escritoire/escritoirelaw08.ViewMakes", spec := "viewMakes", unfollowed := true, recurses := true, apart := false }
def ViewMakesSaid : Prop := viewMakesRow.holds Try.pinned (OpenSpec.ofChange viewMakesSpec)

/-- ITS FALSE NEIGHBOUR: 'it returns false'. Refute it at one input. -/
def viewMakesWrong : ChangeSpec := { name := "viewMakes", fn := fun _ => fun
  | [d1, d2] => { results := [.lit (.bool false)], args := [d1, d2] }
  | _ => none }
def ViewMakesWrongFalsely : Prop := viewMakesRow.holds Try.pinned (OpenSpec.ofChange viewMakesWrong)

/-- 'escritoirelaw08.ViewNil': WHATEVER THE INPUT: true; the input reads as it did. -/
def viewNilSpec : ChangeSpec := { name := "viewNil", fn := fun _ => fun
  | [d1, d2] => { results := [.lit (.bool true)], args := [d1, d2] }
  | _ => none }
def viewNilRow : OpenClaim := { program := "ytkbhilhefnahpaa", sum := "3ca29da886ffec9876a6553e1f850c924c00f434eeb55217a9895185e1308e5d", func := "escritoire/escritoirelaw08.ViewNil", spec := "viewNil", unfollowed := true, recurses := true, apart := false }
def ViewNilSaid : Prop := viewNilRow.holds Try.pinned (OpenSpec.ofChange viewNilSpec)

/-- ITS FALSE NEIGHBOUR: 'it returns false'. Refute it at one input. -/
def viewNilWrong : ChangeSpec := { name := "viewNil", fn := fun _ => fun
  | [d1, d2] => { results := [.lit (.bool false)], args := [d1, d2] }
  | _ => none }
def ViewNilWrongFalsely : Prop := viewNilRow.holds Try.pinned (OpenSpec.ofChange viewNilWrong)

/- THE SECOND FORM. 'bulk': how many values and letters a reading holds, each counted each time it is reached (what is shared counts as often as it is met; a slice's spare places count too). A statement '..UptoSaid' is the law's where the arguments, and the package variables that the reading takes, are together of bulk at most 1048576: NARROWER than '..Said'. Prove '..Said' where nothing that the law and all that it calls make is longer than what came in: it says more and counts as full. Else prove '..UptoSaid'. A law counts once. -/
mutual
def uptoBulk {H : Type} : DataW H → Nat
  | .lit (.string bytes) => bytes.length + 1
  | .lit _ => 1
  | .nil => 1
  | .ptr d => uptoBulk d + 1
  | .slice elems spare => uptoBulkAll elems + uptoBulkAll spare + 1
  | .agg parts => uptoBulkAll parts + 1
  | .iface _ d => uptoBulk d + 1
  | .map entries => uptoBulkEntries entries + 1
  | .held _ => 1
def uptoBulkAll {H : Type} : List (DataW H) → Nat
  | [] => 0
  | d :: r => uptoBulk d + uptoBulkAll r
def uptoBulkEntries {H : Type} : List (Lit × DataW H) → Nat
  | [] => 0
  | x :: r => uptoBulkEntry x + uptoBulkEntries r
def uptoBulkEntry {H : Type} : Lit × DataW H → Nat
  | (.string bytes, d) => bytes.length + uptoBulk d + 1
  | (_, d) => uptoBulk d + 1
 end
def uptoSmall : (H : Type) → List (DataW H) → Bool := fun _ ds => decide (uptoBulkAll ds ≤ 1048576)
def OpenSpec.upto (s : _root_.Go.ChangeSpec) : _root_.Go.OpenSpec := { _root_.Go.OpenSpec.ofChange s with cond := some uptoSmall }

/-- 'escritoirelaw08.ViewFresh', WHERE WHAT IT READS IS OF BULK AT MOST 1048576: true; the input reads as it did. -/
def viewFreshUptoRow : OpenClaim := { program := "ytkbhilhefnahpaa", sum := "3ca29da886ffec9876a6553e1f850c924c00f434eeb55217a9895185e1308e5d", func := "escritoire/escritoirelaw08.ViewFresh", spec := "viewFresh", unfollowed := true, recurses := true, apart := false, narrowed := true }
def ViewFreshUptoSaid : Prop := viewFreshUptoRow.holds Try.pinned (OpenSpec.upto viewFreshSpec)

/-- 'escritoirelaw08.ViewMakes', WHERE WHAT IT READS IS OF BULK AT MOST 1048576: true; the input reads as it did. -/
def viewMakesUptoRow : OpenClaim := { program := "ytkbhilhefnahpaa", sum := "3ca29da886ffec9876a6553e1f850c924c00f434eeb55217a9895185e1308e5d", func := "escritoire/escritoirelaw08.ViewMakes", spec := "viewMakes", unfollowed := true, recurses := true, apart := false, narrowed := true }
def ViewMakesUptoSaid : Prop := viewMakesUptoRow.holds Try.pinned (OpenSpec.upto viewMakesSpec)

/-- 'escritoirelaw08.ViewNil', WHERE WHAT IT READS IS OF BULK AT MOST 1048576: true; the input reads as it did. -/
def viewNilUptoRow : OpenClaim := { program := "ytkbhilhefnahpaa", sum := "3ca29da886ffec9876a6553e1f850c924c00f434eeb55217a9895185e1308e5d", func := "escritoire/escritoirelaw08.ViewNil", spec := "viewNil", unfollowed := true, recurses := true, apart := false, narrowed := true }
def ViewNilUptoSaid : Prop := viewNilUptoRow.holds Try.pinned (OpenSpec.upto viewNilSpec)

end Rows
end Go.Proofs.Ytkbhilhefnahpaa
