/-
  No cell of these rows narrows 'for every input' (looked for: loops, veiled, ifaces, maps, wideKeys, modest, calm, conditions, laid).
  DERIVED. THE GIVEN ROWS OF THIS SEAT. 4 by the template 'for every input the law returns true; each argument reads behind the call as it read before'; 0 by the template 'total and deterministic' (their statements: YtjigomnmfhbjmaaTotals.lean).
  GIVEN WITH THE SEED: the statements are not yours to turn. If you find one false, say at which input.
  Laid BY PROGRAM, IN A SANDBOX (cutbox-rows.mjs): the forced cells as the released guide's own fill.sh prints them over the translation 584500a1e074aa3f… (all of the seat's roots in one cut). By AI agents, Wed Nov 11 2026. No macro, syntax, notation, axiom, sorry.
-/
import Derived.Test.YtjigomnmfhbjmaaChecked
import GoSem.Claim
import GoSem.ClaimJoined
import GoSem.ClaimMapViews
import Derived.JoinedTies
import Derived.KernelRfl
namespace Go.Proofs.Ytjigomnmfhbjmaa
/- THE CELL 'sum', in the pinned program and in every row, IS THE sha256 OF THE DUMP (.gsa) THAT YtjigomnmfhbjmaaProg.lean LOADS. Nothing in Lean hashes anything: it is a label: what it is worth is what the hold of that sum in a sandbox is worth. -/
noncomputable def Try.pinned : Pinned := { name := "ytjigomnmfhbjmaa", sum := "584500a1e074aa3fa4240a7d7372936e2a1118aa6cad2e18172bf74a8cc7b33f", checked := Try.checked }
namespace Rows
def none {H : Type} : Left H := { results := [], args := [] }

/-- 'escritoirelaw22.TurnsNext': WHATEVER THE INPUT: true; the input reads as it did. -/
def turnsNextSpec : ChangeSpec := { name := "turnsNext", fn := fun _ => fun
  | [d1, d2, d3] => { results := [.lit (.bool true)], args := [d1, d2, d3] }
  | _ => none }
def turnsNextRow : OpenClaim := { program := "ytjigomnmfhbjmaa", sum := "584500a1e074aa3fa4240a7d7372936e2a1118aa6cad2e18172bf74a8cc7b33f", func := "escritoire/escritoirelaw22.TurnsNext", spec := "turnsNext", apart := false }
def TurnsNextSaid : Prop := turnsNextRow.holds Try.pinned (OpenSpec.ofChange turnsNextSpec)

/-- ITS FALSE NEIGHBOUR: 'it returns false'. Refute it at one input. -/
def turnsNextWrong : ChangeSpec := { name := "turnsNext", fn := fun _ => fun
  | [d1, d2, d3] => { results := [.lit (.bool false)], args := [d1, d2, d3] }
  | _ => none }
def TurnsNextWrongFalsely : Prop := turnsNextRow.holds Try.pinned (OpenSpec.ofChange turnsNextWrong)

/-- 'escritoirelaw22.TurnsPlan': WHATEVER THE INPUT: true; the input reads as it did. -/
def turnsPlanSpec : ChangeSpec := { name := "turnsPlan", fn := fun _ => fun
  | [d1, d2] => { results := [.lit (.bool true)], args := [d1, d2] }
  | _ => none }
def turnsPlanRow : OpenClaim := { program := "ytjigomnmfhbjmaa", sum := "584500a1e074aa3fa4240a7d7372936e2a1118aa6cad2e18172bf74a8cc7b33f", func := "escritoire/escritoirelaw22.TurnsPlan", spec := "turnsPlan", apart := false }
def TurnsPlanSaid : Prop := turnsPlanRow.holds Try.pinned (OpenSpec.ofChange turnsPlanSpec)

/-- ITS FALSE NEIGHBOUR: 'it returns false'. Refute it at one input. -/
def turnsPlanWrong : ChangeSpec := { name := "turnsPlan", fn := fun _ => fun
  | [d1, d2] => { results := [.lit (.bool false)], args := [d1, d2] }
  | _ => none }
def TurnsPlanWrongFalsely : Prop := turnsPlanRow.holds Try.pinned (OpenSpec.ofChange turnsPlanWrong)

/-- 'escritoirelaw22.TurnsFair': WHATEVER THE INPUT: true; the input reads as it did. -/
def turnsFairSpec : ChangeSpec := { name := "turnsFair", fn := fun _ => fun
  | [d1, d2, d3] => { results := [.lit (.bool true)], args := [d1, d2, d3] }
  | _ => none }
def turnsFairRow : OpenClaim := { program := "ytjigomnmfhbjmaa", sum := "584500a1e074aa3fa4240a7d7372936e2a1118aa6cad2e18172bf74a8cc7b33f", func := "escritoire/escritoirelaw22.TurnsFair", spec := "turnsFair", apart := false }
def TurnsFairSaid : Prop := turnsFairRow.holds Try.pinned (OpenSpec.ofChange turnsFairSpec)

/-- ITS FALSE NEIGHBOUR: 'it returns false'. Refute it at one input. -/
def turnsFairWrong : ChangeSpec := { name := "turnsFair", fn := fun _ => fun
  | [d1, d2, d3] => { results := [.lit (.bool false)], args := [d1, d2, d3] }
  | _ => none }
def TurnsFairWrongFalsely : Prop := turnsFairRow.holds Try.pinned (OpenSpec.ofChange turnsFairWrong)

/-- 'escritoirelaw22.TurnsRound': WHATEVER THE INPUT: true; the input reads as it did. -/
def turnsRoundSpec : ChangeSpec := { name := "turnsRound", fn := fun _ => fun
  | [d1, d2] => { results := [.lit (.bool true)], args := [d1, d2] }
  | _ => none }
def turnsRoundRow : OpenClaim := { program := "ytjigomnmfhbjmaa", sum := "584500a1e074aa3fa4240a7d7372936e2a1118aa6cad2e18172bf74a8cc7b33f", func := "escritoire/escritoirelaw22.TurnsRound", spec := "turnsRound", apart := false }
def TurnsRoundSaid : Prop := turnsRoundRow.holds Try.pinned (OpenSpec.ofChange turnsRoundSpec)

/-- ITS FALSE NEIGHBOUR: 'it returns false'. Refute it at one input. -/
def turnsRoundWrong : ChangeSpec := { name := "turnsRound", fn := fun _ => fun
  | [d1, d2] => { results := [.lit (.bool false)], args := [d1, d2] }
  | _ => none }
def TurnsRoundWrongFalsely : Prop := turnsRoundRow.holds Try.pinned (OpenSpec.ofChange turnsRoundWrong)

/- THE SECOND FORM. 'bulk': how many values and letters a reading holds, each counted each time it is reached (what is shared counts as often as it is met; a slice's spare places count too). A statement '..UptoSaid' is the law's where the arguments, and the package variables that the reading takes, are together of bulk at most 1048576: NARROWER than '..Said'. Prove '..Said' where nothing that the law and all that it calls make is longer than what came in: it says more and counts as full. Else prove '..UptoSaid'. A law counts once. -/
mutual
def uptoBulk {H : Type} : DataW H → Nat
  | .lit (.string bytes) => bytes.length + 1
  | .lit _ => 1
  | .nil => 1
  | .ptr d => uptoBulk d + 1
  | .slice elems spare => uptoBulkAll elems + uptoBulkAll spare + 1
  | .agg parts => uptoBulkAll parts + 1
  | .iface _ d => uptoBulk d + 1
  | .map entries => uptoBulkEntries entries + 1
  | .held _ => 1
def uptoBulkAll {H : Type} : List (DataW H) → Nat
  | [] => 0
  | d :: r => uptoBulk d + uptoBulkAll r
def uptoBulkEntries {H : Type} : List (Lit × DataW H) → Nat
  | [] => 0
  | x :: r => uptoBulkEntry x + uptoBulkEntries r
def uptoBulkEntry {H : Type} : Lit × DataW H → Nat
  | (.string bytes, d) => bytes.length + uptoBulk d + 1
  | (_, d) => uptoBulk d + 1
 end
def uptoSmall : (H : Type) → List (DataW H) → Bool := fun _ ds => decide (uptoBulkAll ds ≤ 1048576)
def OpenSpec.upto (s : _root_.Go.ChangeSpec) : _root_.Go.OpenSpec := { _root_.Go.OpenSpec.ofChange s with cond := some uptoSmall }

/-- 'escritoirelaw22.TurnsNext', WHERE WHAT IT READS IS OF BULK AT MOST 1048576: true; the input reads as it did. -/
def turnsNextUptoRow : OpenClaim := { program := "ytjigomnmfhbjmaa", sum := "584500a1e074aa3fa4240a7d7372936e2a1118aa6cad2e18172bf74a8cc7b33f", func := "escritoire/escritoirelaw22.TurnsNext", spec := "turnsNext", apart := false, narrowed := true }
def TurnsNextUptoSaid : Prop := turnsNextUptoRow.holds Try.pinned (OpenSpec.upto turnsNextSpec)

/-- 'escritoirelaw22.TurnsPlan', WHERE WHAT IT READS IS OF BULK AT MOST 1048576: true; the input reads as it did. -/
def turnsPlanUptoRow : OpenClaim := { program := "ytjigomnmfhbjmaa", sum := "584500a1e074aa3fa4240a7d7372936e2a1118aa6cad2e18172bf74a8cc7b33f", func := "escritoire/escritoirelaw22.TurnsPlan", spec := "turnsPlan", apart := false, narrowed := true }
def TurnsPlanUptoSaid : Prop := turnsPlanUptoRow.holds Try.pinned (OpenSpec.upto turnsPlanSpec)

/-- 'escritoirelaw22.TurnsFair', WHERE WHAT IT READS IS OF BULK AT MOST 1048576: true; the input reads as it did. -/
def turnsFairUptoRow : OpenClaim := { program := "ytjigomnmfhbjmaa", sum := "584500a1e074aa3fa4240a7d7372936e2a1118aa6cad2e18172bf74a8cc7b33f", func := "escritoire/escritoirelaw22.TurnsFair", spec := "turnsFair", apart := false, narrowed := true }
def TurnsFairUptoSaid : Prop := turnsFairUptoRow.holds Try.pinned (OpenSpec.upto turnsFairSpec)

/-- 'escritoirelaw22.TurnsRound', WHERE WHAT IT READS IS OF BULK AT MOST 1048576: true; the input reads as it did. -/
def turnsRoundUptoRow : OpenClaim := { program := "ytjigomnmfhbjmaa", sum := "584500a1e074aa3fa4240a7d7372936e2a1118aa6cad2e18172bf74a8cc7b33f", func := "escritoire/escritoirelaw22.TurnsRound", spec := "turnsRound", apart := false, narrowed := true }
def TurnsRoundUptoSaid : Prop := turnsRoundUptoRow.holds Try.pinned (OpenSpec.upto turnsRoundSpec)

end Rows
end Go.Proofs.Ytjigomnmfhbjmaa
