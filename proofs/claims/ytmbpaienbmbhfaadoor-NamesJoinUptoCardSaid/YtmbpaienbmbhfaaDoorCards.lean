/-
  DERIVED. GIVEN WITH THE SEED: THE CARDS: each row of YtmbpaienbmbhfaaDoorRows.lean that lists a variable, with what it lists TIED to the program's text (the seventh form; the later family's looks); each row that meets fmt, with fmt's text TOLD by the authors' own Lean function (tested against real Go, not proved from fmt's source: count such statements apart). THE CARD IS WHAT COUNTS. Prove the row's statement (the work); the ties are given (YtmbpaienbmbhfaaDoorTie.lean); close each card by the builder's one call (the guide's Derived/Test/ToyasCard.lean, 'card_holds'). Laid BY PROGRAM, IN A SANDBOX (cutbox-door.mjs). By AI agents, Wed Nov 11 2026. No macro, syntax, notation, axiom, sorry.
-/
import Derived.Test.YtmbpaienbmbhfaaDoorRows
import GoSem.ClaimSeven
namespace Go.Proofs.YtmbpaienbmbhfaaDoor
namespace Rows

/-- THE TIED CARD OF 'escritoirelaw04.NamesPaths'. -/
def namesPathsCard : Claim7 := { stood := { row := namesPathsRow, standIns := [], harness := (true, "b145607e5359a3c09bf97ae9005f9549f2b016e6c482d08758dea3d64b62aac0"), looks := false }, kinds := [], alts := [], laidByText := true, laidKinds := [.data, .pinned], laidTests := true, laidLooks := .later }
def NamesPathsCardSaid : Prop := Claim7.holds Tryd.pinned (.plain (OpenSpec.ofChange namesPathsSpec)) namesPathsCard

/-- THE TIED CARD OF 'escritoirelaw04.NamesBack'. -/
def namesBackCard : Claim7 := { stood := { row := namesBackRow, standIns := [], harness := (true, "b145607e5359a3c09bf97ae9005f9549f2b016e6c482d08758dea3d64b62aac0"), looks := false }, kinds := [], alts := [], laidByText := true, laidKinds := [.data, .pinned], laidTests := true, laidLooks := .later }
def NamesBackCardSaid : Prop := Claim7.holds Tryd.pinned (.plain (OpenSpec.ofChange namesBackSpec)) namesBackCard

/-- THE TIED CARD OF 'escritoirelaw04.NamesParents'. -/
def namesParentsCard : Claim7 := { stood := { row := namesParentsRow, standIns := [], harness := (true, "b145607e5359a3c09bf97ae9005f9549f2b016e6c482d08758dea3d64b62aac0"), looks := false }, kinds := [], alts := [], laidByText := true, laidKinds := [.data, .pinned], laidTests := true, laidLooks := .later }
def NamesParentsCardSaid : Prop := Claim7.holds Tryd.pinned (.plain (OpenSpec.ofChange namesParentsSpec)) namesParentsCard

/-- THE TIED CARD OF 'escritoirelaw04.NamesBuckets'. -/
def namesBucketsCard : Claim7 := { stood := { row := namesBucketsRow, standIns := [], harness := (true, "b145607e5359a3c09bf97ae9005f9549f2b016e6c482d08758dea3d64b62aac0"), looks := false }, kinds := [], alts := [], laidByText := true, laidKinds := [.data, .pinned], laidTests := true, laidLooks := .later }
def NamesBucketsCardSaid : Prop := Claim7.holds Tryd.pinned (.plain (OpenSpec.ofChange namesBucketsSpec)) namesBucketsCard

/-- THE TIED CARD OF 'escritoirelaw04.NamesJoin'. -/
def namesJoinCard : Claim7 := { stood := { row := namesJoinRow, standIns := [], harness := (true, "b145607e5359a3c09bf97ae9005f9549f2b016e6c482d08758dea3d64b62aac0"), looks := false }, kinds := [], alts := [], laidByText := true, laidKinds := [.data, .pinned], laidTests := true, laidLooks := .later }
def NamesJoinCardSaid : Prop := Claim7.holds Tryd.pinned (.plain (OpenSpec.ofChange namesJoinSpec)) namesJoinCard

/-- THE SECOND FORM's CARD OF 'escritoirelaw04.NamesPaths'. -/
def namesPathsUptoCard : Claim7 := { stood := { row := namesPathsUptoRow, standIns := [], harness := (true, "b145607e5359a3c09bf97ae9005f9549f2b016e6c482d08758dea3d64b62aac0"), looks := false }, kinds := [], alts := [], laidByText := true, laidKinds := [.data, .pinned], laidTests := true, laidLooks := .later }
def NamesPathsUptoCardSaid : Prop := Claim7.holds Tryd.pinned (.plain (OpenSpec.upto namesPathsSpec)) namesPathsUptoCard

/-- THE SECOND FORM's CARD OF 'escritoirelaw04.NamesBack'. -/
def namesBackUptoCard : Claim7 := { stood := { row := namesBackUptoRow, standIns := [], harness := (true, "b145607e5359a3c09bf97ae9005f9549f2b016e6c482d08758dea3d64b62aac0"), looks := false }, kinds := [], alts := [], laidByText := true, laidKinds := [.data, .pinned], laidTests := true, laidLooks := .later }
def NamesBackUptoCardSaid : Prop := Claim7.holds Tryd.pinned (.plain (OpenSpec.upto namesBackSpec)) namesBackUptoCard

/-- THE SECOND FORM's CARD OF 'escritoirelaw04.NamesParents'. -/
def namesParentsUptoCard : Claim7 := { stood := { row := namesParentsUptoRow, standIns := [], harness := (true, "b145607e5359a3c09bf97ae9005f9549f2b016e6c482d08758dea3d64b62aac0"), looks := false }, kinds := [], alts := [], laidByText := true, laidKinds := [.data, .pinned], laidTests := true, laidLooks := .later }
def NamesParentsUptoCardSaid : Prop := Claim7.holds Tryd.pinned (.plain (OpenSpec.upto namesParentsSpec)) namesParentsUptoCard

/-- THE SECOND FORM's CARD OF 'escritoirelaw04.NamesBuckets'. -/
def namesBucketsUptoCard : Claim7 := { stood := { row := namesBucketsUptoRow, standIns := [], harness := (true, "b145607e5359a3c09bf97ae9005f9549f2b016e6c482d08758dea3d64b62aac0"), looks := false }, kinds := [], alts := [], laidByText := true, laidKinds := [.data, .pinned], laidTests := true, laidLooks := .later }
def NamesBucketsUptoCardSaid : Prop := Claim7.holds Tryd.pinned (.plain (OpenSpec.upto namesBucketsSpec)) namesBucketsUptoCard

/-- THE SECOND FORM's CARD OF 'escritoirelaw04.NamesJoin'. -/
def namesJoinUptoCard : Claim7 := { stood := { row := namesJoinUptoRow, standIns := [], harness := (true, "b145607e5359a3c09bf97ae9005f9549f2b016e6c482d08758dea3d64b62aac0"), looks := false }, kinds := [], alts := [], laidByText := true, laidKinds := [.data, .pinned], laidTests := true, laidLooks := .later }
def NamesJoinUptoCardSaid : Prop := Claim7.holds Tryd.pinned (.plain (OpenSpec.upto namesJoinSpec)) namesJoinUptoCard
end Rows
end Go.Proofs.YtmbpaienbmbhfaaDoor
