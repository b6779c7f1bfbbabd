/-
  No cell of these rows narrows 'for every input' (looked for: loops, veiled, ifaces, maps, wideKeys, modest, calm, conditions, laid).
  DERIVED. THE GIVEN ROWS OF THIS SEAT. 6 by the template 'for every input the law returns true; each argument reads behind the call as it read before'; 0 by the template 'total and deterministic' (their statements: YtifdinoioddnlaaTotals.lean).
  GIVEN WITH THE SEED: the statements are not yours to turn. If you find one false, say at which input.
  Laid BY PROGRAM, IN A SANDBOX (cutbox-rows.mjs): the forced cells as the released guide's own fill.sh prints them over the translation 994246bef2a7010a… (all of the seat's roots in one cut). By AI agents, Wed Nov 11 2026. No macro, syntax, notation, axiom, sorry.
-/
import Derived.Test.YtifdinoioddnlaaChecked
import GoSem.Claim
import GoSem.ClaimJoined
import GoSem.ClaimMapViews
import Derived.JoinedTies
import Derived.KernelRfl
namespace Go.Proofs.Ytifdinoioddnlaa
/- THE CELL 'sum', in the pinned program and in every row, IS THE sha256 OF THE DUMP (.gsa) THAT YtifdinoioddnlaaProg.lean LOADS. Nothing in Lean hashes anything: it is a label: what it is worth is what the hold of that sum in a sandbox is worth. -/
noncomputable def Try.pinned : Pinned := { name := "ytifdinoioddnlaa", sum := "994246bef2a7010ad5d3c95672d37599e7bbc85c166cd9ab50e1a7135ea6c6ac", checked := Try.checked }
namespace Rows
def none {H : Type} : Left H := { results := [], args := [] }

/-- 'escritoirelaw02.MemoryLoads': WHATEVER THE INPUT: true; the input reads as it did. -/
def memoryLoadsSpec : ChangeSpec := { name := "memoryLoads", fn := fun _ => fun
  | [d1, d2] => { results := [.lit (.bool true)], args := [d1, d2] }
  | _ => none }
def memoryLoadsRow : OpenClaim := { program := "ytifdinoioddnlaa", sum := "994246bef2a7010ad5d3c95672d37599e7bbc85c166cd9ab50e1a7135ea6c6ac", func := "escritoire/escritoirelaw02.MemoryLoads", spec := "memoryLoads", unfollowed := true, recurses := true, apart := false }
def MemoryLoadsSaid : Prop := memoryLoadsRow.holds Try.pinned (OpenSpec.ofChange memoryLoadsSpec)

/-- ITS FALSE NEIGHBOUR: 'it returns false'. Refute it at one input. -/
def memoryLoadsWrong : ChangeSpec := { name := "memoryLoads", fn := fun _ => fun
  | [d1, d2] => { results := [.lit (.bool false)], args := [d1, d2] }
  | _ => none }
def MemoryLoadsWrongFalsely : Prop := memoryLoadsRow.holds Try.pinned (OpenSpec.ofChange memoryLoadsWrong)

/-- 'escritoirelaw02.MemorySure': WHATEVER THE INPUT: true; the input reads as it did. -/
def memorySureSpec : ChangeSpec := { name := "memorySure", fn := fun _ => fun
  | [d1, d2, d3] => { results := [.lit (.bool true)], args := [d1, d2, d3] }
  | _ => none }
def memorySureRow : OpenClaim := { program := "ytifdinoioddnlaa", sum := "994246bef2a7010ad5d3c95672d37599e7bbc85c166cd9ab50e1a7135ea6c6ac", func := "escritoire/escritoirelaw02.MemorySure", spec := "memorySure", unfollowed := true, recurses := true, apart := false }
def MemorySureSaid : Prop := memorySureRow.holds Try.pinned (OpenSpec.ofChange memorySureSpec)

/-- ITS FALSE NEIGHBOUR: 'it returns false'. Refute it at one input. -/
def memorySureWrong : ChangeSpec := { name := "memorySure", fn := fun _ => fun
  | [d1, d2, d3] => { results := [.lit (.bool false)], args := [d1, d2, d3] }
  | _ => none }
def MemorySureWrongFalsely : Prop := memorySureRow.holds Try.pinned (OpenSpec.ofChange memorySureWrong)

/-- 'escritoirelaw02.MemoryStops': WHATEVER THE INPUT: true; the input reads as it did. -/
def memoryStopsSpec : ChangeSpec := { name := "memoryStops", fn := fun _ => fun
  | [d1, d2] => { results := [.lit (.bool true)], args := [d1, d2] }
  | _ => none }
def memoryStopsRow : OpenClaim := { program := "ytifdinoioddnlaa", sum := "994246bef2a7010ad5d3c95672d37599e7bbc85c166cd9ab50e1a7135ea6c6ac", func := "escritoire/escritoirelaw02.MemoryStops", spec := "memoryStops", unfollowed := true, recurses := true, apart := false }
def MemoryStopsSaid : Prop := memoryStopsRow.holds Try.pinned (OpenSpec.ofChange memoryStopsSpec)

/-- ITS FALSE NEIGHBOUR: 'it returns false'. Refute it at one input. -/
def memoryStopsWrong : ChangeSpec := { name := "memoryStops", fn := fun _ => fun
  | [d1, d2] => { results := [.lit (.bool false)], args := [d1, d2] }
  | _ => none }
def MemoryStopsWrongFalsely : Prop := memoryStopsRow.holds Try.pinned (OpenSpec.ofChange memoryStopsWrong)

/-- 'escritoirelaw02.MemoryNil': WHATEVER THE INPUT: true; the input reads as it did. -/
def memoryNilSpec : ChangeSpec := { name := "memoryNil", fn := fun _ => fun
  | [d] => { results := [.lit (.bool true)], args := [d] }
  | _ => none }
def memoryNilRow : OpenClaim := { program := "ytifdinoioddnlaa", sum := "994246bef2a7010ad5d3c95672d37599e7bbc85c166cd9ab50e1a7135ea6c6ac", func := "escritoire/escritoirelaw02.MemoryNil", spec := "memoryNil", unfollowed := true, recurses := true, apart := false }
def MemoryNilSaid : Prop := memoryNilRow.holds Try.pinned (OpenSpec.ofChange memoryNilSpec)

/-- ITS FALSE NEIGHBOUR: 'it returns false'. Refute it at one input. -/
def memoryNilWrong : ChangeSpec := { name := "memoryNil", fn := fun _ => fun
  | [d] => { results := [.lit (.bool false)], args := [d] }
  | _ => none }
def MemoryNilWrongFalsely : Prop := memoryNilRow.holds Try.pinned (OpenSpec.ofChange memoryNilWrong)

/-- 'escritoirelaw02.MemoryKeeps': WHATEVER THE INPUT: true; the input reads as it did. -/
def memoryKeepsSpec : ChangeSpec := { name := "memoryKeeps", fn := fun _ => fun
  | [d] => { results := [.lit (.bool true)], args := [d] }
  | _ => none }
def memoryKeepsRow : OpenClaim := { program := "ytifdinoioddnlaa", sum := "994246bef2a7010ad5d3c95672d37599e7bbc85c166cd9ab50e1a7135ea6c6ac", func := "escritoire/escritoirelaw02.MemoryKeeps", spec := "memoryKeeps", unfollowed := true, recurses := true, apart := false }
def MemoryKeepsSaid : Prop := memoryKeepsRow.holds Try.pinned (OpenSpec.ofChange memoryKeepsSpec)

/-- ITS FALSE NEIGHBOUR: 'it returns false'. Refute it at one input. -/
def memoryKeepsWrong : ChangeSpec := { name := "memoryKeeps", fn := fun _ => fun
  | [d] => { results := [.lit (.bool false)], args := [d] }
  | _ => none }
def MemoryKeepsWrongFalsely : Prop := memoryKeepsRow.holds Try.pinned (OpenSpec.ofChange memoryKeepsWrong)

/-- 'escritoirelaw02.MemoryFlushes': WHATEVER THE INPUT: true; the input reads as it did. -/
def memoryFlushesSpec : ChangeSpec := { name := "memoryFlushes", fn := fun _ => fun
  | [d] => { results := [.lit (.bool true)], args := [d] }
  | _ => none }
def memoryFlushesRow : OpenClaim := { program := "ytifdinoioddnlaa", sum := "994246bef2a7010ad5d3c95672d37599e7bbc85c166cd9ab50e1a7135ea6c6ac", func := "escritoire/escritoirelaw02.MemoryFlushes", spec := "memoryFlushes", unfollowed := true, recurses := true, apart := false }
def MemoryFlushesSaid : Prop := memoryFlushesRow.holds Try.pinned (OpenSpec.ofChange memoryFlushesSpec)

/-- ITS FALSE NEIGHBOUR: 'it returns false'. Refute it at one input. -/
def memoryFlushesWrong : ChangeSpec := { name := "memoryFlushes", fn := fun _ => fun
  | [d] => { results := [.lit (.bool false)], args := [d] }
  | _ => none }
def MemoryFlushesWrongFalsely : Prop := memoryFlushesRow.holds Try.pinned (OpenSpec.ofChange memoryFlushesWrong)

/- THE SECOND FORM. 'bulk': how many values and letters a reading holds, each counted each time it is reached (what is shared counts as often as it is met; a slice's spare places count too). A statement '..UptoSaid' is the law's where the arguments, and the package variables that the reading takes, are together of bulk at most 1048576: NARROWER than '..Said'. Prove '..Said' where nothing that the law and all that it calls make is longer than what came in: it says more and counts as full. Else prove '..UptoSaid'. A law counts once. -/
mutual
def uptoBulk {H : Type} : DataW H → Nat
  | .lit (.string bytes) => bytes.length + 1
  | .lit _ => 1
  | .nil => 1
  | .ptr d => uptoBulk d + 1
  | .slice elems spare => uptoBulkAll elems + uptoBulkAll spare + 1
  | .agg parts => uptoBulkAll parts + 1
  | .iface _ d => uptoBulk d + 1
  | .map entries => uptoBulkEntries entries + 1
  | .held _ => 1
def uptoBulkAll {H : Type} : List (DataW H) → Nat
  | [] => 0
  | d :: r => uptoBulk d + uptoBulkAll r
def uptoBulkEntries {H : Type} : List (Lit × DataW H) → Nat
  | [] => 0
  | x :: r => uptoBulkEntry x + uptoBulkEntries r
def uptoBulkEntry {H : Type} : Lit × DataW H → Nat
  | (.string bytes, d) => bytes.length + uptoBulk d + 1
  | (_, d) => uptoBulk d + 1
 end
def uptoSmall : (H : Type) → List (DataW H) → Bool := fun _ ds => decide (uptoBulkAll ds ≤ 1048576)
def OpenSpec.upto (s : _root_.Go.ChangeSpec) : _root_.Go.OpenSpec := { _root_.Go.OpenSpec.ofChange s with cond := some uptoSmall }

/-- 'escritoirelaw02.MemoryLoads', WHERE WHAT IT READS IS OF BULK AT MOST 1048576: true; the input reads as it did. -/
def memoryLoadsUptoRow : OpenClaim := { program := "ytifdinoioddnlaa", sum := "994246bef2a7010ad5d3c95672d37599e7bbc85c166cd9ab50e1a7135ea6c6ac", func := "escritoire/escritoirelaw02.MemoryLoads", spec := "memoryLoads", unfollowed := true, recurses := true, apart := false, narrowed := true }
def MemoryLoadsUptoSaid : Prop := memoryLoadsUptoRow.holds Try.pinned (OpenSpec.upto memoryLoadsSpec)

/-- 'escritoirelaw02.MemorySure', WHERE WHAT IT READS IS OF BULK AT MOST 1048576: true; the input reads as it did. -/
def memorySureUptoRow : OpenClaim := { program := "ytifdinoioddnlaa", sum := "994246bef2a7010ad5d3c95672d37599e7bbc85c166cd9ab50e1a7135ea6c6ac", func := "escritoire/escritoirelaw02.MemorySure", spec := "memorySure", unfollowed := true, recurses := true, apart := false, narrowed := true }
def MemorySureUptoSaid : Prop := memorySureUptoRow.holds Try.pinned (OpenSpec.upto memorySureSpec)

/-- 'escritoirelaw02.MemoryStops', WHERE WHAT IT READS IS OF BULK AT MOST 1048576: true; the input reads as it did. -/
def memoryStopsUptoRow : OpenClaim := { program := "ytifdinoioddnlaa", sum := "994246bef2a7010ad5d3c95672d37599e7bbc85c166cd9ab50e1a7135ea6c6ac", func := "escritoire/escritoirelaw02.MemoryStops", spec := "memoryStops", unfollowed := true, recurses := true, apart := false, narrowed := true }
def MemoryStopsUptoSaid : Prop := memoryStopsUptoRow.holds Try.pinned (OpenSpec.upto memoryStopsSpec)

/-- 'escritoirelaw02.MemoryNil', WHERE WHAT IT READS IS OF BULK AT MOST 1048576: true; the input reads as it did. -/
def memoryNilUptoRow : OpenClaim := { program := "ytifdinoioddnlaa", sum := "994246bef2a7010ad5d3c95672d37599e7bbc85c166cd9ab50e1a7135ea6c6ac", func := "escritoire/escritoirelaw02.MemoryNil", spec := "memoryNil", unfollowed := true, recurses := true, apart := false, narrowed := true }
def MemoryNilUptoSaid : Prop := memoryNilUptoRow.holds Try.pinned (OpenSpec.upto memoryNilSpec)

/-- 'escritoirelaw02.MemoryKeeps', WHERE WHAT IT READS IS OF BULK AT MOST 1048576: true; the input reads as it did. -/
def memoryKeepsUptoRow : OpenClaim := { program := "ytifdinoioddnlaa", sum := "994246bef2a7010ad5d3c95672d37599e7bbc85c166cd9ab50e1a7135ea6c6ac", func := "escritoire/escritoirelaw02.MemoryKeeps", spec := "memoryKeeps", unfollowed := true, recurses := true, apart := false, narrowed := true }
def MemoryKeepsUptoSaid : Prop := memoryKeepsUptoRow.holds Try.pinned (OpenSpec.upto memoryKeepsSpec)

/-- 'escritoirelaw02.MemoryFlushes', WHERE WHAT IT READS IS OF BULK AT MOST 1048576: true; the input reads as it did. -/
def memoryFlushesUptoRow : OpenClaim := { program := "ytifdinoioddnlaa", sum := "994246bef2a7010ad5d3c95672d37599e7bbc85c166cd9ab50e1a7135ea6c6ac", func := "escritoire/escritoirelaw02.MemoryFlushes", spec := "memoryFlushes", unfollowed := true, recurses := true, apart := false, narrowed := true }
def MemoryFlushesUptoSaid : Prop := memoryFlushesUptoRow.holds Try.pinned (OpenSpec.upto memoryFlushesSpec)

end Rows
end Go.Proofs.Ytifdinoioddnlaa
