import Derived.Test.YtmbpaienbmbhfaaDoorPureParents
namespace Go.Proofs.YtmbpaienbmbhfaaDoor.Pure
open Go Go.RowKit Go.Proofs.YtmbpaienbmbhfaaDoor.Str Go.Proofs.YtmbpaienbmbhfaaDoor.Print Go.Proofs.YtmbpaienbmbhfaaDoorW.PrintWords Go.Proofs.YtmbpaienbmbhfaaDoorW.PrintLast Go.Proofs.YtmbpaienbmbhfaaDoorW.PrintMore
theorem NamesParents : escritoirelaw04_NamesParents.Pure := by
  intro a0 a1 a2 h0 h1 h2
  have h2w := h2.1
  have hn : a2 < 9223372036854775808 := by
    have h1 : IntKind.i64.min ≤ a2 ∧ a2 ≤ 9223372036854775807 := by simpa [Lit.wf] using h2w
    omega
  obtain ⟨r, hb1, hb2⟩ := bucket_two a0 a2 h0.1 hn
  apply Ev.rounds
  unfold escritoirelaw04_NamesParents.f
  refine Ev.bind lives_ev (Ev.congr (fun k => if_pos rfl) ?_)
  refine Ev.bind (Parent_ev a0 h0.1) (Ev.bind (refParent_ev a0 h0.2) (Ev.congr (fun k => by rw [if_pos rfl, if_pos rfl, if_pos rfl]) ?_))
  refine Ev.bind (Under_ev a0 a1 h0.1 h1.1) (Ev.bind (refUnder_ev a0 a1 h0.2 h1.2) (Ev.congr (fun k => by rw [if_pos (by simp), hb1, Option.bind_some]) ?_))
  exact Ev.bind hb2 (Ev.congr (f := fun _ => some true) (fun k => by simp) (Ev.now _))
end Go.Proofs.YtmbpaienbmbhfaaDoor.Pure
