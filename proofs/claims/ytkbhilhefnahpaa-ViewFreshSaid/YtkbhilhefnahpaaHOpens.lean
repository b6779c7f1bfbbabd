/- What an argument reads as, kind by kind: from the form's reading to the words' kinds. -/
import Derived.Test.YtkbhilhefnahpaaPrint0
import Derived.Deep.Slices
import Derived.ChangeArms
namespace Go.Proofs.Ytkbhilhefnahpaa.Print
open Go.RowKit Go.Proofs.YtkbhilhefnahpaaW.PrintWords Go.Proofs.YtkbhilhefnahpaaW.PrintLast Go.Proofs.YtkbhilhefnahpaaW.PrintMore
end Go.Proofs.Ytkbhilhefnahpaa.Print
