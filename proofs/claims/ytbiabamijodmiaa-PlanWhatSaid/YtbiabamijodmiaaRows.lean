/-
  No cell of these rows narrows 'for every input' (looked for: loops, veiled, ifaces, maps, wideKeys, modest, calm, conditions, laid).
  DERIVED. THE GIVEN ROWS OF THIS SEAT. 5 by the template 'for every input the law returns true; each argument reads behind the call as it read before'; 0 by the template 'total and deterministic' (their statements: YtbiabamijodmiaaTotals.lean).
  GIVEN WITH THE SEED: the statements are not yours to turn. If you find one false, say at which input.
  Laid BY PROGRAM, IN A SANDBOX (cutbox-rows.mjs): the forced cells as the released guide's own fill.sh prints them over the translation aabb769fa2a2e82a… (all of the seat's roots in one cut). By AI agents, Wed Nov 11 2026. No macro, syntax, notation, axiom, sorry.
-/
import Derived.Test.YtbiabamijodmiaaChecked
import GoSem.Claim
import GoSem.ClaimJoined
import GoSem.ClaimMapViews
import Derived.JoinedTies
import Derived.KernelRfl
namespace Go.Proofs.Ytbiabamijodmiaa
/- THE CELL 'sum', in the pinned program and in every row, IS THE sha256 OF THE DUMP (.gsa) THAT YtbiabamijodmiaaProg.lean LOADS. Nothing in Lean hashes anything: it is a label: what it is worth is what the hold of that sum in a sandbox is worth. -/
noncomputable def Try.pinned : Pinned := { name := "ytbiabamijodmiaa", sum := "aabb769fa2a2e82a57b877455e868ee378efcb4f97d3297d5c2f0ef2a2aa20f9", checked := Try.checked }
namespace Rows
def none {H : Type} : Left H := { results := [], args := [] }

/-- 'escritoirelaw05.PlanWhole': WHATEVER THE INPUT: true; the input reads as it did. -/
def planWholeSpec : ChangeSpec := { name := "planWhole", fn := fun _ => fun
  | [d] => { results := [.lit (.bool true)], args := [d] }
  | _ => none }
def planWholeRow : OpenClaim := { program := "ytbiabamijodmiaa", sum := "aabb769fa2a2e82a57b877455e868ee378efcb4f97d3297d5c2f0ef2a2aa20f9", func := "escritoire/escritoirelaw05.PlanWhole", spec := "planWhole", apart := false }
def PlanWholeSaid : Prop := planWholeRow.holds Try.pinned (OpenSpec.ofChange planWholeSpec)

/-- ITS FALSE NEIGHBOUR: 'it returns false'. Refute it at one input. -/
def planWholeWrong : ChangeSpec := { name := "planWhole", fn := fun _ => fun
  | [d] => { results := [.lit (.bool false)], args := [d] }
  | _ => none }
def PlanWholeWrongFalsely : Prop := planWholeRow.holds Try.pinned (OpenSpec.ofChange planWholeWrong)

/-- 'escritoirelaw05.PlanFirst': WHATEVER THE INPUT: true; the input reads as it did. -/
def planFirstSpec : ChangeSpec := { name := "planFirst", fn := fun _ => fun
  | [d] => { results := [.lit (.bool true)], args := [d] }
  | _ => none }
def planFirstRow : OpenClaim := { program := "ytbiabamijodmiaa", sum := "aabb769fa2a2e82a57b877455e868ee378efcb4f97d3297d5c2f0ef2a2aa20f9", func := "escritoire/escritoirelaw05.PlanFirst", spec := "planFirst", apart := false }
def PlanFirstSaid : Prop := planFirstRow.holds Try.pinned (OpenSpec.ofChange planFirstSpec)

/-- ITS FALSE NEIGHBOUR: 'it returns false'. Refute it at one input. -/
def planFirstWrong : ChangeSpec := { name := "planFirst", fn := fun _ => fun
  | [d] => { results := [.lit (.bool false)], args := [d] }
  | _ => none }
def PlanFirstWrongFalsely : Prop := planFirstRow.holds Try.pinned (OpenSpec.ofChange planFirstWrong)

/-- 'escritoirelaw05.PlanCounts': WHATEVER THE INPUT: true; the input reads as it did. -/
def planCountsSpec : ChangeSpec := { name := "planCounts", fn := fun _ => fun
  | [d] => { results := [.lit (.bool true)], args := [d] }
  | _ => none }
def planCountsRow : OpenClaim := { program := "ytbiabamijodmiaa", sum := "aabb769fa2a2e82a57b877455e868ee378efcb4f97d3297d5c2f0ef2a2aa20f9", func := "escritoire/escritoirelaw05.PlanCounts", spec := "planCounts", apart := false }
def PlanCountsSaid : Prop := planCountsRow.holds Try.pinned (OpenSpec.ofChange planCountsSpec)

/-- ITS FALSE NEIGHBOUR: 'it returns false'. Refute it at one input. -/
def planCountsWrong : ChangeSpec := { name := "planCounts", fn := fun _ => fun
  | [d] => { results := [.lit (.bool false)], args := [d] }
  | _ => none }
def PlanCountsWrongFalsely : Prop := planCountsRow.holds Try.pinned (OpenSpec.ofChange planCountsWrong)

/-- 'escritoirelaw05.PlanHead': WHATEVER THE INPUT: true; the input reads as it did. -/
def planHeadSpec : ChangeSpec := { name := "planHead", fn := fun _ => fun
  | [d1, d2, d3] => { results := [.lit (.bool true)], args := [d1, d2, d3] }
  | _ => none }
def planHeadRow : OpenClaim := { program := "ytbiabamijodmiaa", sum := "aabb769fa2a2e82a57b877455e868ee378efcb4f97d3297d5c2f0ef2a2aa20f9", func := "escritoire/escritoirelaw05.PlanHead", spec := "planHead", apart := false }
def PlanHeadSaid : Prop := planHeadRow.holds Try.pinned (OpenSpec.ofChange planHeadSpec)

/-- ITS FALSE NEIGHBOUR: 'it returns false'. Refute it at one input. -/
def planHeadWrong : ChangeSpec := { name := "planHead", fn := fun _ => fun
  | [d1, d2, d3] => { results := [.lit (.bool false)], args := [d1, d2, d3] }
  | _ => none }
def PlanHeadWrongFalsely : Prop := planHeadRow.holds Try.pinned (OpenSpec.ofChange planHeadWrong)

/-- 'escritoirelaw05.PlanWhat': WHATEVER THE INPUT: true; the input reads as it did. -/
def planWhatSpec : ChangeSpec := { name := "planWhat", fn := fun _ => fun
  | [d1, d2, d3] => { results := [.lit (.bool true)], args := [d1, d2, d3] }
  | _ => none }
def planWhatRow : OpenClaim := { program := "ytbiabamijodmiaa", sum := "aabb769fa2a2e82a57b877455e868ee378efcb4f97d3297d5c2f0ef2a2aa20f9", func := "escritoire/escritoirelaw05.PlanWhat", spec := "planWhat", apart := false }
def PlanWhatSaid : Prop := planWhatRow.holds Try.pinned (OpenSpec.ofChange planWhatSpec)

/-- ITS FALSE NEIGHBOUR: 'it returns false'. Refute it at one input. -/
def planWhatWrong : ChangeSpec := { name := "planWhat", fn := fun _ => fun
  | [d1, d2, d3] => { results := [.lit (.bool false)], args := [d1, d2, d3] }
  | _ => none }
def PlanWhatWrongFalsely : Prop := planWhatRow.holds Try.pinned (OpenSpec.ofChange planWhatWrong)

/- THE SECOND FORM. 'bulk': how many values and letters a reading holds, each counted each time it is reached (what is shared counts as often as it is met; a slice's spare places count too). A statement '..UptoSaid' is the law's where the arguments, and the package variables that the reading takes, are together of bulk at most 1048576: NARROWER than '..Said'. Prove '..Said' where nothing that the law and all that it calls make is longer than what came in: it says more and counts as full. Else prove '..UptoSaid'. A law counts once. -/
mutual
def uptoBulk {H : Type} : DataW H → Nat
  | .lit (.string bytes) => bytes.length + 1
  | .lit _ => 1
  | .nil => 1
  | .ptr d => uptoBulk d + 1
  | .slice elems spare => uptoBulkAll elems + uptoBulkAll spare + 1
  | .agg parts => uptoBulkAll parts + 1
  | .iface _ d => uptoBulk d + 1
  | .map entries => uptoBulkEntries entries + 1
  | .held _ => 1
def uptoBulkAll {H : Type} : List (DataW H) → Nat
  | [] => 0
  | d :: r => uptoBulk d + uptoBulkAll r
def uptoBulkEntries {H : Type} : List (Lit × DataW H) → Nat
  | [] => 0
  | x :: r => uptoBulkEntry x + uptoBulkEntries r
def uptoBulkEntry {H : Type} : Lit × DataW H → Nat
  | (.string bytes, d) => bytes.length + uptoBulk d + 1
  | (_, d) => uptoBulk d + 1
 end
def uptoSmall : (H : Type) → List (DataW H) → Bool := fun _ ds => decide (uptoBulkAll ds ≤ 1048576)
def OpenSpec.upto (s : _root_.Go.ChangeSpec) : _root_.Go.OpenSpec := { _root_.Go.OpenSpec.ofChange s with cond := some uptoSmall }

/-- 'escritoirelaw05.PlanWhole', WHERE WHAT IT READS IS OF BULK AT MOST 1048576: true; the input reads as it did. -/
def planWholeUptoRow : OpenClaim := { program := "ytbiabamijodmiaa", sum := "aabb769fa2a2e82a57b877455e868ee378efcb4f97d3297d5c2f0ef2a2aa20f9", func := "escritoire/escritoirelaw05.PlanWhole", spec := "planWhole", apart := false, narrowed := true }
def PlanWholeUptoSaid : Prop := planWholeUptoRow.holds Try.pinned (OpenSpec.upto planWholeSpec)

/-- 'escritoirelaw05.PlanFirst', WHERE WHAT IT READS IS OF BULK AT MOST 1048576: true; the input reads as it did. -/
def planFirstUptoRow : OpenClaim := { program := "ytbiabamijodmiaa", sum := "aabb769fa2a2e82a57b877455e868ee378efcb4f97d3297d5c2f0ef2a2aa20f9", func := "escritoire/escritoirelaw05.PlanFirst", spec := "planFirst", apart := false, narrowed := true }
def PlanFirstUptoSaid : Prop := planFirstUptoRow.holds Try.pinned (OpenSpec.upto planFirstSpec)

/-- 'escritoirelaw05.PlanCounts', WHERE WHAT IT READS IS OF BULK AT MOST 1048576: true; the input reads as it did. -/
def planCountsUptoRow : OpenClaim := { program := "ytbiabamijodmiaa", sum := "aabb769fa2a2e82a57b877455e868ee378efcb4f97d3297d5c2f0ef2a2aa20f9", func := "escritoire/escritoirelaw05.PlanCounts", spec := "planCounts", apart := false, narrowed := true }
def PlanCountsUptoSaid : Prop := planCountsUptoRow.holds Try.pinned (OpenSpec.upto planCountsSpec)

/-- 'escritoirelaw05.PlanHead', WHERE WHAT IT READS IS OF BULK AT MOST 1048576: true; the input reads as it did. -/
def planHeadUptoRow : OpenClaim := { program := "ytbiabamijodmiaa", sum := "aabb769fa2a2e82a57b877455e868ee378efcb4f97d3297d5c2f0ef2a2aa20f9", func := "escritoire/escritoirelaw05.PlanHead", spec := "planHead", apart := false, narrowed := true }
def PlanHeadUptoSaid : Prop := planHeadUptoRow.holds Try.pinned (OpenSpec.upto planHeadSpec)

/-- 'escritoirelaw05.PlanWhat', WHERE WHAT IT READS IS OF BULK AT MOST 1048576: true; the input reads as it did. -/
def planWhatUptoRow : OpenClaim := { program := "ytbiabamijodmiaa", sum := "aabb769fa2a2e82a57b877455e868ee378efcb4f97d3297d5c2f0ef2a2aa20f9", func := "escritoire/escritoirelaw05.PlanWhat", spec := "planWhat", apart := false, narrowed := true }
def PlanWhatUptoSaid : Prop := planWhatUptoRow.holds Try.pinned (OpenSpec.upto planWhatSpec)

end Rows
end Go.Proofs.Ytbiabamijodmiaa
