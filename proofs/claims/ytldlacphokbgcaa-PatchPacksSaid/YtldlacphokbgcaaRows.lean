/-
  No cell of these rows narrows 'for every input' (looked for: loops, veiled, ifaces, maps, wideKeys, modest, calm, conditions, laid).
  DERIVED. THE GIVEN ROWS OF THIS SEAT. 5 by the template 'for every input the law returns true; each argument reads behind the call as it read before'; 0 by the template 'total and deterministic' (their statements: YtldlacphokbgcaaTotals.lean).
  GIVEN WITH THE SEED: the statements are not yours to turn. If you find one false, say at which input.
  Laid BY PROGRAM, IN A SANDBOX (cutbox-rows.mjs): the forced cells as the released guide's own fill.sh prints them over the translation ed75cb2ee6ebe14c… (all of the seat's roots in one cut). By AI agents, Wed Nov 11 2026. No macro, syntax, notation, axiom, sorry.
-/
import Derived.Test.YtldlacphokbgcaaChecked
import GoSem.Claim
import GoSem.ClaimJoined
import GoSem.ClaimMapViews
import Derived.JoinedTies
import Derived.KernelRfl
namespace Go.Proofs.Ytldlacphokbgcaa
/- THE CELL 'sum', in the pinned program and in every row, IS THE sha256 OF THE DUMP (.gsa) THAT YtldlacphokbgcaaProg.lean LOADS. Nothing in Lean hashes anything: it is a label: what it is worth is what the hold of that sum in a sandbox is worth. -/
noncomputable def Try.pinned : Pinned := { name := "ytldlacphokbgcaa", sum := "ed75cb2ee6ebe14c1915072dc7434f6f2b6dde4e0b411327b38bbbb2887c4f6d", checked := Try.checked }
namespace Rows
def none {H : Type} : Left H := { results := [], args := [] }

/-- 'escritoirelaw23.PatchUnpacks': WHATEVER THE INPUT: true; the input reads as it did. -/
def patchUnpacksSpec : ChangeSpec := { name := "patchUnpacks", fn := fun _ => fun
  | [d1, d2] => { results := [.lit (.bool true)], args := [d1, d2] }
  | _ => none }
def patchUnpacksRow : OpenClaim := { program := "ytldlacphokbgcaa", sum := "ed75cb2ee6ebe14c1915072dc7434f6f2b6dde4e0b411327b38bbbb2887c4f6d", func := "escritoire/escritoirelaw23.PatchUnpacks", spec := "patchUnpacks", apart := false }
def PatchUnpacksSaid : Prop := patchUnpacksRow.holds Try.pinned (OpenSpec.ofChange patchUnpacksSpec)

/-- ITS FALSE NEIGHBOUR: 'it returns false'. Refute it at one input. -/
def patchUnpacksWrong : ChangeSpec := { name := "patchUnpacks", fn := fun _ => fun
  | [d1, d2] => { results := [.lit (.bool false)], args := [d1, d2] }
  | _ => none }
def PatchUnpacksWrongFalsely : Prop := patchUnpacksRow.holds Try.pinned (OpenSpec.ofChange patchUnpacksWrong)

/-- 'escritoirelaw23.PatchMakes': WHATEVER THE INPUT: true; the input reads as it did. -/
def patchMakesSpec : ChangeSpec := { name := "patchMakes", fn := fun _ => fun
  | [d1, d2, d3] => { results := [.lit (.bool true)], args := [d1, d2, d3] }
  | _ => none }
def patchMakesRow : OpenClaim := { program := "ytldlacphokbgcaa", sum := "ed75cb2ee6ebe14c1915072dc7434f6f2b6dde4e0b411327b38bbbb2887c4f6d", func := "escritoire/escritoirelaw23.PatchMakes", spec := "patchMakes", apart := false }
def PatchMakesSaid : Prop := patchMakesRow.holds Try.pinned (OpenSpec.ofChange patchMakesSpec)

/-- ITS FALSE NEIGHBOUR: 'it returns false'. Refute it at one input. -/
def patchMakesWrong : ChangeSpec := { name := "patchMakes", fn := fun _ => fun
  | [d1, d2, d3] => { results := [.lit (.bool false)], args := [d1, d2, d3] }
  | _ => none }
def PatchMakesWrongFalsely : Prop := patchMakesRow.holds Try.pinned (OpenSpec.ofChange patchMakesWrong)

/-- 'escritoirelaw23.PatchBack': WHATEVER THE INPUT: true; the input reads as it did. -/
def patchBackSpec : ChangeSpec := { name := "patchBack", fn := fun _ => fun
  | [d1, d2] => { results := [.lit (.bool true)], args := [d1, d2] }
  | _ => none }
def patchBackRow : OpenClaim := { program := "ytldlacphokbgcaa", sum := "ed75cb2ee6ebe14c1915072dc7434f6f2b6dde4e0b411327b38bbbb2887c4f6d", func := "escritoire/escritoirelaw23.PatchBack", spec := "patchBack", apart := false }
def PatchBackSaid : Prop := patchBackRow.holds Try.pinned (OpenSpec.ofChange patchBackSpec)

/-- ITS FALSE NEIGHBOUR: 'it returns false'. Refute it at one input. -/
def patchBackWrong : ChangeSpec := { name := "patchBack", fn := fun _ => fun
  | [d1, d2] => { results := [.lit (.bool false)], args := [d1, d2] }
  | _ => none }
def PatchBackWrongFalsely : Prop := patchBackRow.holds Try.pinned (OpenSpec.ofChange patchBackWrong)

/-- 'escritoirelaw23.PatchJoin': WHATEVER THE INPUT: true; the input reads as it did. -/
def patchJoinSpec : ChangeSpec := { name := "patchJoin", fn := fun _ => fun
  | [d1, d2, d3] => { results := [.lit (.bool true)], args := [d1, d2, d3] }
  | _ => none }
def patchJoinRow : OpenClaim := { program := "ytldlacphokbgcaa", sum := "ed75cb2ee6ebe14c1915072dc7434f6f2b6dde4e0b411327b38bbbb2887c4f6d", func := "escritoire/escritoirelaw23.PatchJoin", spec := "patchJoin", unfollowed := true, recurses := true, apart := false }
def PatchJoinSaid : Prop := patchJoinRow.holds Try.pinned (OpenSpec.ofChange patchJoinSpec)

/-- ITS FALSE NEIGHBOUR: 'it returns false'. Refute it at one input. -/
def patchJoinWrong : ChangeSpec := { name := "patchJoin", fn := fun _ => fun
  | [d1, d2, d3] => { results := [.lit (.bool false)], args := [d1, d2, d3] }
  | _ => none }
def PatchJoinWrongFalsely : Prop := patchJoinRow.holds Try.pinned (OpenSpec.ofChange patchJoinWrong)

/-- 'escritoirelaw23.PatchPacks': WHATEVER THE INPUT: true; the input reads as it did. -/
def patchPacksSpec : ChangeSpec := { name := "patchPacks", fn := fun _ => fun
  | [d1, d2, d3] => { results := [.lit (.bool true)], args := [d1, d2, d3] }
  | _ => none }
def patchPacksRow : OpenClaim := { program := "ytldlacphokbgcaa", sum := "ed75cb2ee6ebe14c1915072dc7434f6f2b6dde4e0b411327b38bbbb2887c4f6d", func := "escritoire/escritoirelaw23.PatchPacks", spec := "patchPacks", unfollowed := true, recurses := true, apart := false }
def PatchPacksSaid : Prop := patchPacksRow.holds Try.pinned (OpenSpec.ofChange patchPacksSpec)

/-- ITS FALSE NEIGHBOUR: 'it returns false'. Refute it at one input. -/
def patchPacksWrong : ChangeSpec := { name := "patchPacks", fn := fun _ => fun
  | [d1, d2, d3] => { results := [.lit (.bool false)], args := [d1, d2, d3] }
  | _ => none }
def PatchPacksWrongFalsely : Prop := patchPacksRow.holds Try.pinned (OpenSpec.ofChange patchPacksWrong)

/- THE SECOND FORM. 'bulk': how many values and letters a reading holds, each counted each time it is reached (what is shared counts as often as it is met; a slice's spare places count too). A statement '..UptoSaid' is the law's where the arguments, and the package variables that the reading takes, are together of bulk at most 1048576: NARROWER than '..Said'. Prove '..Said' where nothing that the law and all that it calls make is longer than what came in: it says more and counts as full. Else prove '..UptoSaid'. A law counts once. -/
mutual
def uptoBulk {H : Type} : DataW H → Nat
  | .lit (.string bytes) => bytes.length + 1
  | .lit _ => 1
  | .nil => 1
  | .ptr d => uptoBulk d + 1
  | .slice elems spare => uptoBulkAll elems + uptoBulkAll spare + 1
  | .agg parts => uptoBulkAll parts + 1
  | .iface _ d => uptoBulk d + 1
  | .map entries => uptoBulkEntries entries + 1
  | .held _ => 1
def uptoBulkAll {H : Type} : List (DataW H) → Nat
  | [] => 0
  | d :: r => uptoBulk d + uptoBulkAll r
def uptoBulkEntries {H : Type} : List (Lit × DataW H) → Nat
  | [] => 0
  | x :: r => uptoBulkEntry x + uptoBulkEntries r
def uptoBulkEntry {H : Type} : Lit × DataW H → Nat
  | (.string bytes, d) => bytes.length + uptoBulk d + 1
  | (_, d) => uptoBulk d + 1
 end
def uptoSmall : (H : Type) → List (DataW H) → Bool := fun _ ds => decide (uptoBulkAll ds ≤ 1048576)
def OpenSpec.upto (s : _root_.Go.ChangeSpec) : _root_.Go.OpenSpec := { _root_.Go.OpenSpec.ofChange s with cond := some uptoSmall }

/-- 'escritoirelaw23.PatchUnpacks', WHERE WHAT IT READS IS OF BULK AT MOST 1048576: true; the input reads as it did. -/
def patchUnpacksUptoRow : OpenClaim := { program := "ytldlacphokbgcaa", sum := "ed75cb2ee6ebe14c1915072dc7434f6f2b6dde4e0b411327b38bbbb2887c4f6d", func := "escritoire/escritoirelaw23.PatchUnpacks", spec := "patchUnpacks", apart := false, narrowed := true }
def PatchUnpacksUptoSaid : Prop := patchUnpacksUptoRow.holds Try.pinned (OpenSpec.upto patchUnpacksSpec)

/-- 'escritoirelaw23.PatchMakes', WHERE WHAT IT READS IS OF BULK AT MOST 1048576: true; the input reads as it did. -/
def patchMakesUptoRow : OpenClaim := { program := "ytldlacphokbgcaa", sum := "ed75cb2ee6ebe14c1915072dc7434f6f2b6dde4e0b411327b38bbbb2887c4f6d", func := "escritoire/escritoirelaw23.PatchMakes", spec := "patchMakes", apart := false, narrowed := true }
def PatchMakesUptoSaid : Prop := patchMakesUptoRow.holds Try.pinned (OpenSpec.upto patchMakesSpec)

/-- 'escritoirelaw23.PatchBack', WHERE WHAT IT READS IS OF BULK AT MOST 1048576: true; the input reads as it did. -/
def patchBackUptoRow : OpenClaim := { program := "ytldlacphokbgcaa", sum := "ed75cb2ee6ebe14c1915072dc7434f6f2b6dde4e0b411327b38bbbb2887c4f6d", func := "escritoire/escritoirelaw23.PatchBack", spec := "patchBack", apart := false, narrowed := true }
def PatchBackUptoSaid : Prop := patchBackUptoRow.holds Try.pinned (OpenSpec.upto patchBackSpec)

/-- 'escritoirelaw23.PatchJoin', WHERE WHAT IT READS IS OF BULK AT MOST 1048576: true; the input reads as it did. -/
def patchJoinUptoRow : OpenClaim := { program := "ytldlacphokbgcaa", sum := "ed75cb2ee6ebe14c1915072dc7434f6f2b6dde4e0b411327b38bbbb2887c4f6d", func := "escritoire/escritoirelaw23.PatchJoin", spec := "patchJoin", unfollowed := true, recurses := true, apart := false, narrowed := true }
def PatchJoinUptoSaid : Prop := patchJoinUptoRow.holds Try.pinned (OpenSpec.upto patchJoinSpec)

/-- 'escritoirelaw23.PatchPacks', WHERE WHAT IT READS IS OF BULK AT MOST 1048576: true; the input reads as it did. -/
def patchPacksUptoRow : OpenClaim := { program := "ytldlacphokbgcaa", sum := "ed75cb2ee6ebe14c1915072dc7434f6f2b6dde4e0b411327b38bbbb2887c4f6d", func := "escritoire/escritoirelaw23.PatchPacks", spec := "patchPacks", unfollowed := true, recurses := true, apart := false, narrowed := true }
def PatchPacksUptoSaid : Prop := patchPacksUptoRow.holds Try.pinned (OpenSpec.upto patchPacksSpec)

end Rows
end Go.Proofs.Ytldlacphokbgcaa
