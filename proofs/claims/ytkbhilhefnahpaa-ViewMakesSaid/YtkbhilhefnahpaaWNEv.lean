import Derived.Test.YtkbhilhefnahpaaWN
/-! ### 48. N's events: append, a whole row appended, zeros appended, literals, make, stores, cuts, an element taken out -/
namespace Go.Proofs.YtkbhilhefnahpaaW.PrintWords
open Go.RowKit
namespace Kd
end Kd
end Go.Proofs.YtkbhilhefnahpaaW.PrintWords
