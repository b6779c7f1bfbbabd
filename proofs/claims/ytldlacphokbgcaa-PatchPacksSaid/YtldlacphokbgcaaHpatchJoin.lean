/- Two patches as one. -/
import Derived.Test.YtldlacphokbgcaaPrint0
import Derived.Test.YtldlacphokbgcaaPrint2
import Derived.Test.YtldlacphokbgcaaJoinC
namespace Go.Proofs.Ytldlacphokbgcaa.Print
open Go.RowKit Go.Proofs.YtldlacphokbgcaaW.PrintWords Go.Proofs.YtldlacphokbgcaaW.PrintLast Go.Proofs.YtldlacphokbgcaaW.PrintMore
set_option linter.unusedVariables false
def patch_Join.f (k : Nat) (l0 : List (S31)) (l1 : List (S31)) : Option (List (S31)) := (patch_Right.f k l0).bind fun a => if a = true then (patch_Right.f k l1).bind fun b => (if b = true then (if l0.length + l1.length ≤ 1000000 ∧ (l0 ++ l1).all Jo.okc = true then some (Jo.canonL (Jo.joinM (l0 ++ l1))) else none) else some []) else some []
theorem patch_Join.calls (k : Nat) (A0 : Option Addr) (c0 : Nat) (l0 : List (S31)) (A1 : Option Addr) (c1 : Nat) (l1 : List (S31)) (r : List (S31)) (w : World) (hr0 : Kd.C k31 w A0 l0.length l0) (hc0 : l0.length ≤ c0) (hr1 : Kd.C k31 w A1 l1.length l1) (hc1 : l1.length ≤ c1) (h : patch_Join.f k l0 l1 = some r) :
    Calls Try.prog 22 #[.slice A0 l0.length c0, .slice A1 l1.length c1] w fun e w' => ∃ v0_ : Value, e = .returned (v0_) ∧ Kd.R k31 31 w' w.heap.size (fun _ => True) v0_ r ∧ Below w.heap.size w w' := by
  obtain ⟨a, hR, h⟩ := Option.bind_eq_some_iff.1 h
  cases a with
  | false =>
    obtain rfl := Option.some.inj h
    exact Jo.Join_not hr0 hc0 hr1 hc1 (Or.inl hR)
  | true =>
    rw [if_pos rfl] at h
    obtain ⟨b, hS, h⟩ := Option.bind_eq_some_iff.1 h
    cases b with
    | false =>
      obtain rfl := Option.some.inj h
      exact Jo.Join_not hr0 hc0 hr1 hc1 (Or.inr ⟨hR, hS⟩)
    | true =>
      rw [if_pos rfl] at h
      split at h
      · rename_i hb
        obtain rfl := Option.some.inj h
        exact Jo.Join_both hr0 hc0 hr1 hc1 hb.1 hR hS (List.all_eq_true.1 hb.2)
      · cases h
end Go.Proofs.Ytldlacphokbgcaa.Print
