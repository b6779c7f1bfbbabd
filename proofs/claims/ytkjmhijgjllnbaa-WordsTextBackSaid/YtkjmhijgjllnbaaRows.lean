/-
  No cell of these rows narrows 'for every input' (looked for: loops, veiled, ifaces, maps, wideKeys, modest, calm, conditions, laid).
  DERIVED. THE GIVEN ROWS OF THIS SEAT. 6 by the template 'for every input the law returns true; each argument reads behind the call as it read before'; 0 by the template 'total and deterministic' (their statements: YtkjmhijgjllnbaaTotals.lean).
  GIVEN WITH THE SEED: the statements are not yours to turn. If you find one false, say at which input.
  Laid BY PROGRAM, IN A SANDBOX (cutbox-rows.mjs): the forced cells as the released guide's own fill.sh prints them over the translation 4ab090426fbd06a4… (all of the seat's roots in one cut). By AI agents, Wed Nov 11 2026. No macro, syntax, notation, axiom, sorry.
-/
import Derived.Test.YtkjmhijgjllnbaaChecked
import GoSem.Claim
import GoSem.ClaimJoined
import GoSem.ClaimMapViews
import Derived.JoinedTies
import Derived.KernelRfl
namespace Go.Proofs.Ytkjmhijgjllnbaa
/- THE CELL 'sum', in the pinned program and in every row, IS THE sha256 OF THE DUMP (.gsa) THAT YtkjmhijgjllnbaaProg.lean LOADS. Nothing in Lean hashes anything: it is a label: what it is worth is what the hold of that sum in a sandbox is worth. -/
noncomputable def Try.pinned : Pinned := { name := "ytkjmhijgjllnbaa", sum := "4ab090426fbd06a4d9ed0fd31b43181efca383ddfb974a4c11dd97ec9f8f6326", checked := Try.checked }
namespace Rows
def none {H : Type} : Left H := { results := [], args := [] }

/-- 'escritoirelaw01.WordsHash': WHATEVER THE INPUT: true; the input reads as it did. -/
def wordsHashSpec : ChangeSpec := { name := "wordsHash", fn := fun _ => fun
  | [d1, d2, d3] => { results := [.lit (.bool true)], args := [d1, d2, d3] }
  | _ => none }
def wordsHashRow : OpenClaim := { program := "ytkjmhijgjllnbaa", sum := "4ab090426fbd06a4d9ed0fd31b43181efca383ddfb974a4c11dd97ec9f8f6326", func := "escritoire/escritoirelaw01.WordsHash", spec := "wordsHash", apart := false }
def WordsHashSaid : Prop := wordsHashRow.holds Try.pinned (OpenSpec.ofChange wordsHashSpec)

/-- ITS FALSE NEIGHBOUR: 'it returns false'. Refute it at one input. -/
def wordsHashWrong : ChangeSpec := { name := "wordsHash", fn := fun _ => fun
  | [d1, d2, d3] => { results := [.lit (.bool false)], args := [d1, d2, d3] }
  | _ => none }
def WordsHashWrongFalsely : Prop := wordsHashRow.holds Try.pinned (OpenSpec.ofChange wordsHashWrong)

/-- 'escritoirelaw01.WordsFields': WHATEVER THE INPUT: true; the input reads as it did. -/
def wordsFieldsSpec : ChangeSpec := { name := "wordsFields", fn := fun _ => fun
  | [d1, d2, d3] => { results := [.lit (.bool true)], args := [d1, d2, d3] }
  | _ => none }
def wordsFieldsRow : OpenClaim := { program := "ytkjmhijgjllnbaa", sum := "4ab090426fbd06a4d9ed0fd31b43181efca383ddfb974a4c11dd97ec9f8f6326", func := "escritoire/escritoirelaw01.WordsFields", spec := "wordsFields", apart := false }
def WordsFieldsSaid : Prop := wordsFieldsRow.holds Try.pinned (OpenSpec.ofChange wordsFieldsSpec)

/-- ITS FALSE NEIGHBOUR: 'it returns false'. Refute it at one input. -/
def wordsFieldsWrong : ChangeSpec := { name := "wordsFields", fn := fun _ => fun
  | [d1, d2, d3] => { results := [.lit (.bool false)], args := [d1, d2, d3] }
  | _ => none }
def WordsFieldsWrongFalsely : Prop := wordsFieldsRow.holds Try.pinned (OpenSpec.ofChange wordsFieldsWrong)

/-- 'escritoirelaw01.WordsBack': WHATEVER THE INPUT: true; the input reads as it did. -/
def wordsBackSpec : ChangeSpec := { name := "wordsBack", fn := fun _ => fun
  | [d1, d2, d3] => { results := [.lit (.bool true)], args := [d1, d2, d3] }
  | _ => none }
def wordsBackRow : OpenClaim := { program := "ytkjmhijgjllnbaa", sum := "4ab090426fbd06a4d9ed0fd31b43181efca383ddfb974a4c11dd97ec9f8f6326", func := "escritoire/escritoirelaw01.WordsBack", spec := "wordsBack", apart := false }
def WordsBackSaid : Prop := wordsBackRow.holds Try.pinned (OpenSpec.ofChange wordsBackSpec)

/-- ITS FALSE NEIGHBOUR: 'it returns false'. Refute it at one input. -/
def wordsBackWrong : ChangeSpec := { name := "wordsBack", fn := fun _ => fun
  | [d1, d2, d3] => { results := [.lit (.bool false)], args := [d1, d2, d3] }
  | _ => none }
def WordsBackWrongFalsely : Prop := wordsBackRow.holds Try.pinned (OpenSpec.ofChange wordsBackWrong)

/-- 'escritoirelaw01.WordsWhole': WHATEVER THE INPUT: true; the input reads as it did. -/
def wordsWholeSpec : ChangeSpec := { name := "wordsWhole", fn := fun _ => fun
  | [d1, d2] => { results := [.lit (.bool true)], args := [d1, d2] }
  | _ => none }
def wordsWholeRow : OpenClaim := { program := "ytkjmhijgjllnbaa", sum := "4ab090426fbd06a4d9ed0fd31b43181efca383ddfb974a4c11dd97ec9f8f6326", func := "escritoire/escritoirelaw01.WordsWhole", spec := "wordsWhole", apart := false }
def WordsWholeSaid : Prop := wordsWholeRow.holds Try.pinned (OpenSpec.ofChange wordsWholeSpec)

/-- ITS FALSE NEIGHBOUR: 'it returns false'. Refute it at one input. -/
def wordsWholeWrong : ChangeSpec := { name := "wordsWhole", fn := fun _ => fun
  | [d1, d2] => { results := [.lit (.bool false)], args := [d1, d2] }
  | _ => none }
def WordsWholeWrongFalsely : Prop := wordsWholeRow.holds Try.pinned (OpenSpec.ofChange wordsWholeWrong)

/-- 'escritoirelaw01.WordsTexts': WHATEVER THE INPUT: true; the input reads as it did. -/
def wordsTextsSpec : ChangeSpec := { name := "wordsTexts", fn := fun _ => fun
  | [d1, d2, d3] => { results := [.lit (.bool true)], args := [d1, d2, d3] }
  | _ => none }
def wordsTextsRow : OpenClaim := { program := "ytkjmhijgjllnbaa", sum := "4ab090426fbd06a4d9ed0fd31b43181efca383ddfb974a4c11dd97ec9f8f6326", func := "escritoire/escritoirelaw01.WordsTexts", spec := "wordsTexts", apart := false }
def WordsTextsSaid : Prop := wordsTextsRow.holds Try.pinned (OpenSpec.ofChange wordsTextsSpec)

/-- ITS FALSE NEIGHBOUR: 'it returns false'. Refute it at one input. -/
def wordsTextsWrong : ChangeSpec := { name := "wordsTexts", fn := fun _ => fun
  | [d1, d2, d3] => { results := [.lit (.bool false)], args := [d1, d2, d3] }
  | _ => none }
def WordsTextsWrongFalsely : Prop := wordsTextsRow.holds Try.pinned (OpenSpec.ofChange wordsTextsWrong)

/-- 'escritoirelaw01.WordsTextBack': WHATEVER THE INPUT: true; the input reads as it did. -/
def wordsTextBackSpec : ChangeSpec := { name := "wordsTextBack", fn := fun _ => fun
  | [d1, d2, d3] => { results := [.lit (.bool true)], args := [d1, d2, d3] }
  | _ => none }
def wordsTextBackRow : OpenClaim := { program := "ytkjmhijgjllnbaa", sum := "4ab090426fbd06a4d9ed0fd31b43181efca383ddfb974a4c11dd97ec9f8f6326", func := "escritoire/escritoirelaw01.WordsTextBack", spec := "wordsTextBack", apart := false }
def WordsTextBackSaid : Prop := wordsTextBackRow.holds Try.pinned (OpenSpec.ofChange wordsTextBackSpec)

/-- ITS FALSE NEIGHBOUR: 'it returns false'. Refute it at one input. -/
def wordsTextBackWrong : ChangeSpec := { name := "wordsTextBack", fn := fun _ => fun
  | [d1, d2, d3] => { results := [.lit (.bool false)], args := [d1, d2, d3] }
  | _ => none }
def WordsTextBackWrongFalsely : Prop := wordsTextBackRow.holds Try.pinned (OpenSpec.ofChange wordsTextBackWrong)

/- THE SECOND FORM. 'bulk': how many values and letters a reading holds, each counted each time it is reached (what is shared counts as often as it is met; a slice's spare places count too). A statement '..UptoSaid' is the law's where the arguments, and the package variables that the reading takes, are together of bulk at most 1048576: NARROWER than '..Said'. Prove '..Said' where nothing that the law and all that it calls make is longer than what came in: it says more and counts as full. Else prove '..UptoSaid'. A law counts once. -/
mutual
def uptoBulk {H : Type} : DataW H → Nat
  | .lit (.string bytes) => bytes.length + 1
  | .lit _ => 1
  | .nil => 1
  | .ptr d => uptoBulk d + 1
  | .slice elems spare => uptoBulkAll elems + uptoBulkAll spare + 1
  | .agg parts => uptoBulkAll parts + 1
  | .iface _ d => uptoBulk d + 1
  | .map entries => uptoBulkEntries entries + 1
  | .held _ => 1
def uptoBulkAll {H : Type} : List (DataW H) → Nat
  | [] => 0
  | d :: r => uptoBulk d + uptoBulkAll r
def uptoBulkEntries {H : Type} : List (Lit × DataW H) → Nat
  | [] => 0
  | x :: r => uptoBulkEntry x + uptoBulkEntries r
def uptoBulkEntry {H : Type} : Lit × DataW H → Nat
  | (.string bytes, d) => bytes.length + uptoBulk d + 1
  | (_, d) => uptoBulk d + 1
 end
def uptoSmall : (H : Type) → List (DataW H) → Bool := fun _ ds => decide (uptoBulkAll ds ≤ 1048576)
def OpenSpec.upto (s : _root_.Go.ChangeSpec) : _root_.Go.OpenSpec := { _root_.Go.OpenSpec.ofChange s with cond := some uptoSmall }

/-- 'escritoirelaw01.WordsHash', WHERE WHAT IT READS IS OF BULK AT MOST 1048576: true; the input reads as it did. -/
def wordsHashUptoRow : OpenClaim := { program := "ytkjmhijgjllnbaa", sum := "4ab090426fbd06a4d9ed0fd31b43181efca383ddfb974a4c11dd97ec9f8f6326", func := "escritoire/escritoirelaw01.WordsHash", spec := "wordsHash", apart := false, narrowed := true }
def WordsHashUptoSaid : Prop := wordsHashUptoRow.holds Try.pinned (OpenSpec.upto wordsHashSpec)

/-- 'escritoirelaw01.WordsFields', WHERE WHAT IT READS IS OF BULK AT MOST 1048576: true; the input reads as it did. -/
def wordsFieldsUptoRow : OpenClaim := { program := "ytkjmhijgjllnbaa", sum := "4ab090426fbd06a4d9ed0fd31b43181efca383ddfb974a4c11dd97ec9f8f6326", func := "escritoire/escritoirelaw01.WordsFields", spec := "wordsFields", apart := false, narrowed := true }
def WordsFieldsUptoSaid : Prop := wordsFieldsUptoRow.holds Try.pinned (OpenSpec.upto wordsFieldsSpec)

/-- 'escritoirelaw01.WordsBack', WHERE WHAT IT READS IS OF BULK AT MOST 1048576: true; the input reads as it did. -/
def wordsBackUptoRow : OpenClaim := { program := "ytkjmhijgjllnbaa", sum := "4ab090426fbd06a4d9ed0fd31b43181efca383ddfb974a4c11dd97ec9f8f6326", func := "escritoire/escritoirelaw01.WordsBack", spec := "wordsBack", apart := false, narrowed := true }
def WordsBackUptoSaid : Prop := wordsBackUptoRow.holds Try.pinned (OpenSpec.upto wordsBackSpec)

/-- 'escritoirelaw01.WordsWhole', WHERE WHAT IT READS IS OF BULK AT MOST 1048576: true; the input reads as it did. -/
def wordsWholeUptoRow : OpenClaim := { program := "ytkjmhijgjllnbaa", sum := "4ab090426fbd06a4d9ed0fd31b43181efca383ddfb974a4c11dd97ec9f8f6326", func := "escritoire/escritoirelaw01.WordsWhole", spec := "wordsWhole", apart := false, narrowed := true }
def WordsWholeUptoSaid : Prop := wordsWholeUptoRow.holds Try.pinned (OpenSpec.upto wordsWholeSpec)

/-- 'escritoirelaw01.WordsTexts', WHERE WHAT IT READS IS OF BULK AT MOST 1048576: true; the input reads as it did. -/
def wordsTextsUptoRow : OpenClaim := { program := "ytkjmhijgjllnbaa", sum := "4ab090426fbd06a4d9ed0fd31b43181efca383ddfb974a4c11dd97ec9f8f6326", func := "escritoire/escritoirelaw01.WordsTexts", spec := "wordsTexts", apart := false, narrowed := true }
def WordsTextsUptoSaid : Prop := wordsTextsUptoRow.holds Try.pinned (OpenSpec.upto wordsTextsSpec)

/-- 'escritoirelaw01.WordsTextBack', WHERE WHAT IT READS IS OF BULK AT MOST 1048576: true; the input reads as it did. -/
def wordsTextBackUptoRow : OpenClaim := { program := "ytkjmhijgjllnbaa", sum := "4ab090426fbd06a4d9ed0fd31b43181efca383ddfb974a4c11dd97ec9f8f6326", func := "escritoire/escritoirelaw01.WordsTextBack", spec := "wordsTextBack", apart := false, narrowed := true }
def WordsTextBackUptoSaid : Prop := wordsTextBackUptoRow.holds Try.pinned (OpenSpec.upto wordsTextBackSpec)

end Rows
end Go.Proofs.Ytkjmhijgjllnbaa
