/- A pair of whole numbers among a row's parameters. -/
import Derived.Test.YtngncegokmppiaaFloO
import Derived.Test.YtngncegokmppiaaFloG
namespace Go.Proofs.Ytngncegokmppiaa.Flo
open Go Go.RowKit Go.WideShapes Go.ChangeShapes Go.Proofs.Ytngncegokmppiaa.Print Go.Proofs.YtngncegokmppiaaW.PrintWords
theorem okWide_pair {P : Program} {w : World} {r : Reach} {base : Nat} {t e : TypeId} {n : Nat} {v : Value} (ht : P.underlying t = some (.array n e)) (h : Value.okWide P w r base t v) : ∃ cs, v = .agg cs := by
  simp only [Value.okWide, ht] at h
  obtain ⟨cs, h1, _⟩ := h
  exact ⟨cs, h1⟩
theorem opens_pair : Opens Try.prog 29 kP (fun p => (Lit.int .i64 p.1).wf = true ∧ (Lit.int .i64 p.2).wf = true) :=
  opens_array Try.underlying29 (by kernel_rfl) (by
    rw [show ((List.range 2).map fun i => (3, i * Try.prog.cellsOf 3)) = [(3, 0), (3, 1)] from by kernel_rfl]
    exact opensF_cons (o := 0) (opens_int Try.underlying3) (by kernel_rfl) (opensF_one (o := 1) (opens_int Try.underlying3) (by kernel_rfl)))
theorem open_pair {H : Type} {enc : TypeId × Value → H} {w : World} {r : Reach} {b0 base : Nat} {spare : Nat → Bool} {held : Bool} {v : Value} {d : DataW H} {ps : List MemPlace} (hval : Value.okWide Try.prog w r b0 29 v) (hd : DataW.Trod enc Try.prog w base spare held 29 v d ps)
    (hs : ∀ z ∈ DataW.weights Try.prog 29 d, z ≤ reachBytes) : ∃ a b, v = .agg #[.int .i64 a, .int .i64 b] := by
  obtain ⟨fu, hf⟩ := hd
  obtain ⟨x, hK, _⟩ := opens_pair H enc w base spare held fu _ _ hf hs
  obtain ⟨cs, rfl⟩ := okWide_pair Try.underlying29 hval
  obtain ⟨a, b, e, ea, eb⟩ := hK
  have ea : a = [Value.int .i64 x.1] := ea
  have eb : b = [Value.int .i64 x.2] := eb
  refine ⟨x.1, x.2, ?_⟩
  have e' : cs.toList = [.int .i64 x.1, .int .i64 x.2] := by
    have : (Value.agg cs).cells.toList = a ++ b := e
    rw [ea, eb] at this
    exact this
  congr 1
  exact Array.toList_inj.1 e'
end Go.Proofs.Ytngncegokmppiaa.Flo
