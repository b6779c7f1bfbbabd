/- PatchJoin in plain Lean. -/
import Derived.Test.YtldlacphokbgcaaPureJoin
namespace Go.Proofs.Ytldlacphokbgcaa.Pure
open Go.RowKit Go.Proofs.Ytldlacphokbgcaa.Print Go.Proofs.YtldlacphokbgcaaW.PrintWords Go.Proofs.YtldlacphokbgcaaW.PrintLast Go.Proofs.YtldlacphokbgcaaW.PrintMore Go.Proofs.Ytldlacphokbgcaa.Jo
set_option linter.unusedVariables false
theorem Join_ev (p q : List S31) (hp : p.length ≤ 60) (hq : q.length ≤ 60) (hw : (p ++ q).all okc = true) : Ev (fun k => patch_Join.f k p q) (if rightF (-1) p = true ∧ rightF (-1) q = true then canonL (joinM (p ++ q)) else []) := by
  have h1 := Right_ev p (by omega)
  have h2 := Right_ev q (by omega)
  unfold patch_Join.f
  refine Ev.bind h1 ?_
  cases hR : rightF (-1) p with
  | false => exact Ev.congr (f := fun _ => some []) (fun k => by simp) (by simpa using Ev.now _)
  | true =>
    refine Ev.congr (fun k => if_pos rfl) (Ev.bind h2 ?_)
    cases hS : rightF (-1) q with
    | false => exact Ev.congr (f := fun _ => some []) (fun k => by simp) (by simpa using Ev.now _)
    | true => exact Ev.congr (f := fun _ => some (canonL (joinM (p ++ q)))) (fun k => by rw [if_pos rfl, if_pos ⟨by omega, hw⟩]) (by simpa using Ev.now _)
theorem all_ok {p : List S31} (h : ∀ x ∈ p, wf31 x) : p.all okc = true := List.all_eq_true.2 fun x hx => by
  have := h x hx
  unfold okc
  rw [Bool.and_eq_true]
  exact ⟨this.1, this.2⟩
end Go.Proofs.Ytldlacphokbgcaa.Pure
