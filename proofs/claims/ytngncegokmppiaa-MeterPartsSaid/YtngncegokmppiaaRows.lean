/-
  No cell of these rows narrows 'for every input' (looked for: loops, veiled, ifaces, maps, wideKeys, modest, calm, conditions, laid).
  DERIVED. THE GIVEN ROWS OF THIS SEAT. 5 by the template 'for every input the law returns true; each argument reads behind the call as it read before'; 0 by the template 'total and deterministic' (their statements: YtngncegokmppiaaTotals.lean).
  GIVEN WITH THE SEED: the statements are not yours to turn. If you find one false, say at which input.
  Laid BY PROGRAM, IN A SANDBOX (cutbox-rows.mjs): the forced cells as the released guide's own fill.sh prints them over the translation 01d65ccb3af796ea… (all of the seat's roots in one cut). By AI agents, Wed Nov 11 2026. No macro, syntax, notation, axiom, sorry.
-/
import Derived.Test.YtngncegokmppiaaChecked
import GoSem.Claim
import GoSem.ClaimJoined
import GoSem.ClaimMapViews
import Derived.JoinedTies
import Derived.KernelRfl
namespace Go.Proofs.Ytngncegokmppiaa
/- THE CELL 'sum', in the pinned program and in every row, IS THE sha256 OF THE DUMP (.gsa) THAT YtngncegokmppiaaProg.lean LOADS. Nothing in Lean hashes anything: it is a label: what it is worth is what the hold of that sum in a sandbox is worth. -/
noncomputable def Try.pinned : Pinned := { name := "ytngncegokmppiaa", sum := "01d65ccb3af796ea2551759b374196140511df5f561179c866565d93b50bdfd4", checked := Try.checked }
namespace Rows
def none {H : Type} : Left H := { results := [], args := [] }

/-- 'escritoirelaw24.MeterRuns': WHATEVER THE INPUT: true; the input reads as it did. -/
def meterRunsSpec : ChangeSpec := { name := "meterRuns", fn := fun _ => fun
  | [d1, d2] => { results := [.lit (.bool true)], args := [d1, d2] }
  | _ => none }
def meterRunsRow : OpenClaim := { program := "ytngncegokmppiaa", sum := "01d65ccb3af796ea2551759b374196140511df5f561179c866565d93b50bdfd4", func := "escritoire/escritoirelaw24.MeterRuns", spec := "meterRuns", inPlace := ["math.Float64bits"], unfollowed := true, recurses := true, apart := false }
def MeterRunsSaid : Prop := meterRunsRow.holds Try.pinned (OpenSpec.ofChange meterRunsSpec)

/-- ITS FALSE NEIGHBOUR: 'it returns false'. Refute it at one input. -/
def meterRunsWrong : ChangeSpec := { name := "meterRuns", fn := fun _ => fun
  | [d1, d2] => { results := [.lit (.bool false)], args := [d1, d2] }
  | _ => none }
def MeterRunsWrongFalsely : Prop := meterRunsRow.holds Try.pinned (OpenSpec.ofChange meterRunsWrong)

/-- 'escritoirelaw24.MeterRise': WHATEVER THE INPUT: true; the input reads as it did. -/
def meterRiseSpec : ChangeSpec := { name := "meterRise", fn := fun _ => fun
  | [d1, d2, d3] => { results := [.lit (.bool true)], args := [d1, d2, d3] }
  | _ => none }
def meterRiseRow : OpenClaim := { program := "ytngncegokmppiaa", sum := "01d65ccb3af796ea2551759b374196140511df5f561179c866565d93b50bdfd4", func := "escritoire/escritoirelaw24.MeterRise", spec := "meterRise", inPlace := ["math.Float64bits"], unfollowed := true, recurses := true, apart := false }
def MeterRiseSaid : Prop := meterRiseRow.holds Try.pinned (OpenSpec.ofChange meterRiseSpec)

/-- ITS FALSE NEIGHBOUR: 'it returns false'. Refute it at one input. -/
def meterRiseWrong : ChangeSpec := { name := "meterRise", fn := fun _ => fun
  | [d1, d2, d3] => { results := [.lit (.bool false)], args := [d1, d2, d3] }
  | _ => none }
def MeterRiseWrongFalsely : Prop := meterRiseRow.holds Try.pinned (OpenSpec.ofChange meterRiseWrong)

/-- 'escritoirelaw24.MeterParts': WHATEVER THE INPUT: true; the input reads as it did. -/
def meterPartsSpec : ChangeSpec := { name := "meterParts", fn := fun _ => fun
  | [d1, d2, d3] => { results := [.lit (.bool true)], args := [d1, d2, d3] }
  | _ => none }
def meterPartsRow : OpenClaim := { program := "ytngncegokmppiaa", sum := "01d65ccb3af796ea2551759b374196140511df5f561179c866565d93b50bdfd4", func := "escritoire/escritoirelaw24.MeterParts", spec := "meterParts", inPlace := ["math.Float64bits"], unfollowed := true, recurses := true, apart := false }
def MeterPartsSaid : Prop := meterPartsRow.holds Try.pinned (OpenSpec.ofChange meterPartsSpec)

/-- ITS FALSE NEIGHBOUR: 'it returns false'. Refute it at one input. -/
def meterPartsWrong : ChangeSpec := { name := "meterParts", fn := fun _ => fun
  | [d1, d2, d3] => { results := [.lit (.bool false)], args := [d1, d2, d3] }
  | _ => none }
def MeterPartsWrongFalsely : Prop := meterPartsRow.holds Try.pinned (OpenSpec.ofChange meterPartsWrong)

/-- 'escritoirelaw24.MeterMeans': WHATEVER THE INPUT: true; the input reads as it did. -/
def meterMeansSpec : ChangeSpec := { name := "meterMeans", fn := fun _ => fun
  | [d1, d2, d3] => { results := [.lit (.bool true)], args := [d1, d2, d3] }
  | _ => none }
def meterMeansRow : OpenClaim := { program := "ytngncegokmppiaa", sum := "01d65ccb3af796ea2551759b374196140511df5f561179c866565d93b50bdfd4", func := "escritoire/escritoirelaw24.MeterMeans", spec := "meterMeans", inPlace := ["math.Float64bits", "math.Float64frombits"], unfollowed := true, recurses := true, apart := false }
def MeterMeansSaid : Prop := meterMeansRow.holds Try.pinned (OpenSpec.ofChange meterMeansSpec)

/-- ITS FALSE NEIGHBOUR: 'it returns false'. Refute it at one input. -/
def meterMeansWrong : ChangeSpec := { name := "meterMeans", fn := fun _ => fun
  | [d1, d2, d3] => { results := [.lit (.bool false)], args := [d1, d2, d3] }
  | _ => none }
def MeterMeansWrongFalsely : Prop := meterMeansRow.holds Try.pinned (OpenSpec.ofChange meterMeansWrong)

/-- 'escritoirelaw24.MeterWhole': WHATEVER THE INPUT: true; the input reads as it did. -/
def meterWholeSpec : ChangeSpec := { name := "meterWhole", fn := fun _ => fun
  | [d1, d2, d3] => { results := [.lit (.bool true)], args := [d1, d2, d3] }
  | _ => none }
def meterWholeRow : OpenClaim := { program := "ytngncegokmppiaa", sum := "01d65ccb3af796ea2551759b374196140511df5f561179c866565d93b50bdfd4", func := "escritoire/escritoirelaw24.MeterWhole", spec := "meterWhole", inPlace := ["math.Float64bits", "math.Float64frombits"], unfollowed := true, recurses := true, apart := false }
def MeterWholeSaid : Prop := meterWholeRow.holds Try.pinned (OpenSpec.ofChange meterWholeSpec)

/-- ITS FALSE NEIGHBOUR: 'it returns false'. Refute it at one input. -/
def meterWholeWrong : ChangeSpec := { name := "meterWhole", fn := fun _ => fun
  | [d1, d2, d3] => { results := [.lit (.bool false)], args := [d1, d2, d3] }
  | _ => none }
def MeterWholeWrongFalsely : Prop := meterWholeRow.holds Try.pinned (OpenSpec.ofChange meterWholeWrong)

/- THE SECOND FORM. 'bulk': how many values and letters a reading holds, each counted each time it is reached (what is shared counts as often as it is met; a slice's spare places count too). A statement '..UptoSaid' is the law's where the arguments, and the package variables that the reading takes, are together of bulk at most 1048576: NARROWER than '..Said'. Prove '..Said' where nothing that the law and all that it calls make is longer than what came in: it says more and counts as full. Else prove '..UptoSaid'. A law counts once. -/
mutual
def uptoBulk {H : Type} : DataW H → Nat
  | .lit (.string bytes) => bytes.length + 1
  | .lit _ => 1
  | .nil => 1
  | .ptr d => uptoBulk d + 1
  | .slice elems spare => uptoBulkAll elems + uptoBulkAll spare + 1
  | .agg parts => uptoBulkAll parts + 1
  | .iface _ d => uptoBulk d + 1
  | .map entries => uptoBulkEntries entries + 1
  | .held _ => 1
def uptoBulkAll {H : Type} : List (DataW H) → Nat
  | [] => 0
  | d :: r => uptoBulk d + uptoBulkAll r
def uptoBulkEntries {H : Type} : List (Lit × DataW H) → Nat
  | [] => 0
  | x :: r => uptoBulkEntry x + uptoBulkEntries r
def uptoBulkEntry {H : Type} : Lit × DataW H → Nat
  | (.string bytes, d) => bytes.length + uptoBulk d + 1
  | (_, d) => uptoBulk d + 1
 end
def uptoSmall : (H : Type) → List (DataW H) → Bool := fun _ ds => decide (uptoBulkAll ds ≤ 1048576)
def OpenSpec.upto (s : _root_.Go.ChangeSpec) : _root_.Go.OpenSpec := { _root_.Go.OpenSpec.ofChange s with cond := some uptoSmall }

/-- 'escritoirelaw24.MeterRuns', WHERE WHAT IT READS IS OF BULK AT MOST 1048576: true; the input reads as it did. -/
def meterRunsUptoRow : OpenClaim := { program := "ytngncegokmppiaa", sum := "01d65ccb3af796ea2551759b374196140511df5f561179c866565d93b50bdfd4", func := "escritoire/escritoirelaw24.MeterRuns", spec := "meterRuns", inPlace := ["math.Float64bits"], unfollowed := true, recurses := true, apart := false, narrowed := true }
def MeterRunsUptoSaid : Prop := meterRunsUptoRow.holds Try.pinned (OpenSpec.upto meterRunsSpec)

/-- 'escritoirelaw24.MeterRise', WHERE WHAT IT READS IS OF BULK AT MOST 1048576: true; the input reads as it did. -/
def meterRiseUptoRow : OpenClaim := { program := "ytngncegokmppiaa", sum := "01d65ccb3af796ea2551759b374196140511df5f561179c866565d93b50bdfd4", func := "escritoire/escritoirelaw24.MeterRise", spec := "meterRise", inPlace := ["math.Float64bits"], unfollowed := true, recurses := true, apart := false, narrowed := true }
def MeterRiseUptoSaid : Prop := meterRiseUptoRow.holds Try.pinned (OpenSpec.upto meterRiseSpec)

/-- 'escritoirelaw24.MeterParts', WHERE WHAT IT READS IS OF BULK AT MOST 1048576: true; the input reads as it did. -/
def meterPartsUptoRow : OpenClaim := { program := "ytngncegokmppiaa", sum := "01d65ccb3af796ea2551759b374196140511df5f561179c866565d93b50bdfd4", func := "escritoire/escritoirelaw24.MeterParts", spec := "meterParts", inPlace := ["math.Float64bits"], unfollowed := true, recurses := true, apart := false, narrowed := true }
def MeterPartsUptoSaid : Prop := meterPartsUptoRow.holds Try.pinned (OpenSpec.upto meterPartsSpec)

/-- 'escritoirelaw24.MeterMeans', WHERE WHAT IT READS IS OF BULK AT MOST 1048576: true; the input reads as it did. -/
def meterMeansUptoRow : OpenClaim := { program := "ytngncegokmppiaa", sum := "01d65ccb3af796ea2551759b374196140511df5f561179c866565d93b50bdfd4", func := "escritoire/escritoirelaw24.MeterMeans", spec := "meterMeans", inPlace := ["math.Float64bits", "math.Float64frombits"], unfollowed := true, recurses := true, apart := false, narrowed := true }
def MeterMeansUptoSaid : Prop := meterMeansUptoRow.holds Try.pinned (OpenSpec.upto meterMeansSpec)

/-- 'escritoirelaw24.MeterWhole', WHERE WHAT IT READS IS OF BULK AT MOST 1048576: true; the input reads as it did. -/
def meterWholeUptoRow : OpenClaim := { program := "ytngncegokmppiaa", sum := "01d65ccb3af796ea2551759b374196140511df5f561179c866565d93b50bdfd4", func := "escritoire/escritoirelaw24.MeterWhole", spec := "meterWhole", inPlace := ["math.Float64bits", "math.Float64frombits"], unfollowed := true, recurses := true, apart := false, narrowed := true }
def MeterWholeUptoSaid : Prop := meterWholeUptoRow.holds Try.pinned (OpenSpec.upto meterWholeSpec)

end Rows
end Go.Proofs.Ytngncegokmppiaa
