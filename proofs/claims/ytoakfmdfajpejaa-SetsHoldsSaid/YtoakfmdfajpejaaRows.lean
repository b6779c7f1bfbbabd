/-
  No cell of these rows narrows 'for every input' (looked for: loops, veiled, ifaces, maps, wideKeys, modest, calm, conditions, laid).
  DERIVED. THE GIVEN ROWS OF THIS SEAT. 4 by the template 'for every input the law returns true; each argument reads behind the call as it read before'; 0 by the template 'total and deterministic' (their statements: YtoakfmdfajpejaaTotals.lean).
  GIVEN WITH THE SEED: the statements are not yours to turn. If you find one false, say at which input.
  Laid BY PROGRAM, IN A SANDBOX (cutbox-rows.mjs): the forced cells as the released guide's own fill.sh prints them over the translation da38dd7f136f1220… (all of the seat's roots in one cut). By AI agents, Wed Nov 11 2026. No macro, syntax, notation, axiom, sorry.
-/
import Derived.Test.YtoakfmdfajpejaaChecked
import GoSem.Claim
import GoSem.ClaimJoined
import GoSem.ClaimMapViews
import Derived.JoinedTies
import Derived.KernelRfl
namespace Go.Proofs.Ytoakfmdfajpejaa
/- THE CELL 'sum', in the pinned program and in every row, IS THE sha256 OF THE DUMP (.gsa) THAT YtoakfmdfajpejaaProg.lean LOADS. Nothing in Lean hashes anything: it is a label: what it is worth is what the hold of that sum in a sandbox is worth. -/
noncomputable def Try.pinned : Pinned := { name := "ytoakfmdfajpejaa", sum := "da38dd7f136f12208e53384da6395d27d1472efa7177de40158a8f4e4b44f31a", checked := Try.checked }
namespace Rows
def none {H : Type} : Left H := { results := [], args := [] }

/-- 'escritoirelaw15.SetsFresh': WHATEVER THE INPUT: true; the input reads as it did. -/
def setsFreshSpec : ChangeSpec := { name := "setsFresh", fn := fun _ => fun
  | [d1, d2, d3] => { results := [.lit (.bool true)], args := [d1, d2, d3] }
  | _ => none }
def setsFreshRow : OpenClaim := { program := "ytoakfmdfajpejaa", sum := "da38dd7f136f12208e53384da6395d27d1472efa7177de40158a8f4e4b44f31a", func := "escritoire/escritoirelaw15.SetsFresh", spec := "setsFresh", unfollowed := true, recurses := true, apart := false }
def SetsFreshSaid : Prop := setsFreshRow.holds Try.pinned (OpenSpec.ofChange setsFreshSpec)

/-- ITS FALSE NEIGHBOUR: 'it returns false'. Refute it at one input. -/
def setsFreshWrong : ChangeSpec := { name := "setsFresh", fn := fun _ => fun
  | [d1, d2, d3] => { results := [.lit (.bool false)], args := [d1, d2, d3] }
  | _ => none }
def SetsFreshWrongFalsely : Prop := setsFreshRow.holds Try.pinned (OpenSpec.ofChange setsFreshWrong)

/-- 'escritoirelaw15.SetsMerge': WHATEVER THE INPUT: true; the input reads as it did. -/
def setsMergeSpec : ChangeSpec := { name := "setsMerge", fn := fun _ => fun
  | [d1, d2, d3] => { results := [.lit (.bool true)], args := [d1, d2, d3] }
  | _ => none }
def setsMergeRow : OpenClaim := { program := "ytoakfmdfajpejaa", sum := "da38dd7f136f12208e53384da6395d27d1472efa7177de40158a8f4e4b44f31a", func := "escritoire/escritoirelaw15.SetsMerge", spec := "setsMerge", unfollowed := true, recurses := true, apart := false }
def SetsMergeSaid : Prop := setsMergeRow.holds Try.pinned (OpenSpec.ofChange setsMergeSpec)

/-- ITS FALSE NEIGHBOUR: 'it returns false'. Refute it at one input. -/
def setsMergeWrong : ChangeSpec := { name := "setsMerge", fn := fun _ => fun
  | [d1, d2, d3] => { results := [.lit (.bool false)], args := [d1, d2, d3] }
  | _ => none }
def SetsMergeWrongFalsely : Prop := setsMergeRow.holds Try.pinned (OpenSpec.ofChange setsMergeWrong)

/-- 'escritoirelaw15.SetsHolds': WHATEVER THE INPUT: true; the input reads as it did. -/
def setsHoldsSpec : ChangeSpec := { name := "setsHolds", fn := fun _ => fun
  | [d1, d2, d3] => { results := [.lit (.bool true)], args := [d1, d2, d3] }
  | _ => none }
def setsHoldsRow : OpenClaim := { program := "ytoakfmdfajpejaa", sum := "da38dd7f136f12208e53384da6395d27d1472efa7177de40158a8f4e4b44f31a", func := "escritoire/escritoirelaw15.SetsHolds", spec := "setsHolds", unfollowed := true, recurses := true, apart := false }
def SetsHoldsSaid : Prop := setsHoldsRow.holds Try.pinned (OpenSpec.ofChange setsHoldsSpec)

/-- ITS FALSE NEIGHBOUR: 'it returns false'. Refute it at one input. -/
def setsHoldsWrong : ChangeSpec := { name := "setsHolds", fn := fun _ => fun
  | [d1, d2, d3] => { results := [.lit (.bool false)], args := [d1, d2, d3] }
  | _ => none }
def SetsHoldsWrongFalsely : Prop := setsHoldsRow.holds Try.pinned (OpenSpec.ofChange setsHoldsWrong)

/-- 'escritoirelaw15.SetsClash': WHATEVER THE INPUT: true; the input reads as it did. -/
def setsClashSpec : ChangeSpec := { name := "setsClash", fn := fun _ => fun
  | [d1, d2] => { results := [.lit (.bool true)], args := [d1, d2] }
  | _ => none }
def setsClashRow : OpenClaim := { program := "ytoakfmdfajpejaa", sum := "da38dd7f136f12208e53384da6395d27d1472efa7177de40158a8f4e4b44f31a", func := "escritoire/escritoirelaw15.SetsClash", spec := "setsClash", unfollowed := true, recurses := true, apart := false }
def SetsClashSaid : Prop := setsClashRow.holds Try.pinned (OpenSpec.ofChange setsClashSpec)

/-- ITS FALSE NEIGHBOUR: 'it returns false'. Refute it at one input. -/
def setsClashWrong : ChangeSpec := { name := "setsClash", fn := fun _ => fun
  | [d1, d2] => { results := [.lit (.bool false)], args := [d1, d2] }
  | _ => none }
def SetsClashWrongFalsely : Prop := setsClashRow.holds Try.pinned (OpenSpec.ofChange setsClashWrong)

/- THE SECOND FORM. 'bulk': how many values and letters a reading holds, each counted each time it is reached (what is shared counts as often as it is met; a slice's spare places count too). A statement '..UptoSaid' is the law's where the arguments, and the package variables that the reading takes, are together of bulk at most 1048576: NARROWER than '..Said'. Prove '..Said' where nothing that the law and all that it calls make is longer than what came in: it says more and counts as full. Else prove '..UptoSaid'. A law counts once. -/
mutual
def uptoBulk {H : Type} : DataW H → Nat
  | .lit (.string bytes) => bytes.length + 1
  | .lit _ => 1
  | .nil => 1
  | .ptr d => uptoBulk d + 1
  | .slice elems spare => uptoBulkAll elems + uptoBulkAll spare + 1
  | .agg parts => uptoBulkAll parts + 1
  | .iface _ d => uptoBulk d + 1
  | .map entries => uptoBulkEntries entries + 1
  | .held _ => 1
def uptoBulkAll {H : Type} : List (DataW H) → Nat
  | [] => 0
  | d :: r => uptoBulk d + uptoBulkAll r
def uptoBulkEntries {H : Type} : List (Lit × DataW H) → Nat
  | [] => 0
  | x :: r => uptoBulkEntry x + uptoBulkEntries r
def uptoBulkEntry {H : Type} : Lit × DataW H → Nat
  | (.string bytes, d) => bytes.length + uptoBulk d + 1
  | (_, d) => uptoBulk d + 1
 end
def uptoSmall : (H : Type) → List (DataW H) → Bool := fun _ ds => decide (uptoBulkAll ds ≤ 1048576)
def OpenSpec.upto (s : _root_.Go.ChangeSpec) : _root_.Go.OpenSpec := { _root_.Go.OpenSpec.ofChange s with cond := some uptoSmall }

/-- 'escritoirelaw15.SetsFresh', WHERE WHAT IT READS IS OF BULK AT MOST 1048576: true; the input reads as it did. -/
def setsFreshUptoRow : OpenClaim := { program := "ytoakfmdfajpejaa", sum := "da38dd7f136f12208e53384da6395d27d1472efa7177de40158a8f4e4b44f31a", func := "escritoire/escritoirelaw15.SetsFresh", spec := "setsFresh", unfollowed := true, recurses := true, apart := false, narrowed := true }
def SetsFreshUptoSaid : Prop := setsFreshUptoRow.holds Try.pinned (OpenSpec.upto setsFreshSpec)

/-- 'escritoirelaw15.SetsMerge', WHERE WHAT IT READS IS OF BULK AT MOST 1048576: true; the input reads as it did. -/
def setsMergeUptoRow : OpenClaim := { program := "ytoakfmdfajpejaa", sum := "da38dd7f136f12208e53384da6395d27d1472efa7177de40158a8f4e4b44f31a", func := "escritoire/escritoirelaw15.SetsMerge", spec := "setsMerge", unfollowed := true, recurses := true, apart := false, narrowed := true }
def SetsMergeUptoSaid : Prop := setsMergeUptoRow.holds Try.pinned (OpenSpec.upto setsMergeSpec)

/-- 'escritoirelaw15.SetsHolds', WHERE WHAT IT READS IS OF BULK AT MOST 1048576: true; the input reads as it did. -/
def setsHoldsUptoRow : OpenClaim := { program := "ytoakfmdfajpejaa", sum := "da38dd7f136f12208e53384da6395d27d1472efa7177de40158a8f4e4b44f31a", func := "escritoire/escritoirelaw15.SetsHolds", spec := "setsHolds", unfollowed := true, recurses := true, apart := false, narrowed := true }
def SetsHoldsUptoSaid : Prop := setsHoldsUptoRow.holds Try.pinned (OpenSpec.upto setsHoldsSpec)

/-- 'escritoirelaw15.SetsClash', WHERE WHAT IT READS IS OF BULK AT MOST 1048576: true; the input reads as it did. -/
def setsClashUptoRow : OpenClaim := { program := "ytoakfmdfajpejaa", sum := "da38dd7f136f12208e53384da6395d27d1472efa7177de40158a8f4e4b44f31a", func := "escritoire/escritoirelaw15.SetsClash", spec := "setsClash", unfollowed := true, recurses := true, apart := false, narrowed := true }
def SetsClashUptoSaid : Prop := setsClashUptoRow.holds Try.pinned (OpenSpec.upto setsClashSpec)

end Rows
end Go.Proofs.Ytoakfmdfajpejaa
