/- strings.IndexByte off the shelf. -/
import Derived.Test.YtmbpaienbmbhfaaDoorPrint0
import Derived.Test.YtmbpaienbmbhfaaDoorStrA
namespace Go.Proofs.YtmbpaienbmbhfaaDoor.Print
open Go.RowKit Go.Proofs.YtmbpaienbmbhfaaDoorW.PrintWords Go.Proofs.YtmbpaienbmbhfaaDoorW.PrintLast Go.Proofs.YtmbpaienbmbhfaaDoorW.PrintMore
set_option linter.unusedVariables false
def strings_IndexByte.f (a0 : ByteArray) (a1 : Int) : Option Int := some (Lib.indexByte a0.data.toList a1.toNat.toUInt8)
theorem strings_IndexByte.calls (a0 : ByteArray) (a1 : Int) (r : Int) (w : World) (h : strings_IndexByte.f a0 a1 = some r) :
    Calls Tryd.prog 36 #[.string a0, .int .u8 a1] w fun e w' => e = .returned (.int .i64 r) ∧ Drawn0 w w' := by
  obtain rfl := Option.some.inj h
  exact (Str.IndexByte_calls a0 a1 w).mono fun e w' h => ⟨h.1, by rw [h.2]; exact Drawn0.refl _⟩
end Go.Proofs.YtmbpaienbmbhfaaDoor.Print
