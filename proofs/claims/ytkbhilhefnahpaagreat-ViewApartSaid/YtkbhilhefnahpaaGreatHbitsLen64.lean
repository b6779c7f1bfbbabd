/- bits.Len64 off the shelf. -/
import Derived.Test.YtkbhilhefnahpaaGreatPrint0
import Derived.Shelf.Lay
import Derived.Shelf.LaySoft
import Derived.Shelf.Small.Bits
namespace Go.Proofs.YtkbhilhefnahpaaGreat.Print
open Go.RowKit Go.Proofs.YtkbhilhefnahpaaGreatW.PrintWords Go.Proofs.YtkbhilhefnahpaaGreatW.PrintLast Go.Proofs.YtkbhilhefnahpaaGreatW.PrintMore
open Go.Shelf
shelf_lay Lays.n129 Nm 129 at Tryz as Tryz.lays129
def bits_Len64.f (x : Int) : Option Int := if 0 ≤ x ∧ x ≤ 18446744073709551615 then some (Lib.bitLen x.toNat) else none
theorem bits_Len64.calls (a0 : Int) (r : Int) (w : World) (h : bits_Len64.f a0 = some r) :
  Calls Tryz.prog 84 #[.int .u64 a0] w fun e w' => e = .returned (.int .i64 r) ∧ zL w w' := by
 unfold bits_Len64.f at h
 by_cases c : 0 ≤ a0 ∧ a0 ≤ 18446744073709551615
 ·rw [if_pos c] at h
  obtain rfl := Option.some.inj h
  exact (Any.bits_Len64 Tryz.lays129 a0 w c.1 c.2).mono (fun e w' h => ⟨h.1, by rw [h.2]; exact zL.refl _⟩)
 ·rw [if_neg c] at h
  cases h
end Go.Proofs.YtkbhilhefnahpaaGreat.Print
