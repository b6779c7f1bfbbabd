/- PatchMakes in plain Lean. -/
import Derived.Test.YtldlacphokbgcaaPureMakes
namespace Go.Proofs.Ytldlacphokbgcaa.Pure
open Go.RowKit Go.Proofs.Ytldlacphokbgcaa.Print Go.Proofs.YtldlacphokbgcaaW.PrintWords Go.Proofs.YtldlacphokbgcaaW.PrintLast Go.Proofs.YtldlacphokbgcaaW.PrintMore
theorem early60 (p : List S31) : escritoirelaw23_early.f p = some (p.take 60) := by
  unfold escritoirelaw23_early.f
  rw [show (60 : Int) = ((60 : Nat) : Int) from rfl, mn_nat, if_pos (by omega), if_pos (by omega), Int.toNat_natCast, Nat.min_comm, ← List.take_eq_take_min]
theorem PatchMakes : escritoirelaw23_PatchMakes.Pure := by
  intro l0 l1 l2 h0 h1 h2
  apply Ev.rounds
  have g0 := h0.2
  have g1 := h1.2
  obtain ⟨p, hp⟩ : ∃ p, p = l2.take 60 := ⟨_, rfl⟩
  have hl : p.length ≤ 60 := by rw [hp, List.length_take]; omega
  have hO := ofN_len l0 l1 0
  have hB : (if rightF (-1) p = true then backS l0 p else []).length ≤ 60 := by
    split
    · have := backS_len l0 p; omega
    · simp
  refine Ev.congr (fun k => by unfold escritoirelaw23_PatchMakes.f; rfl) (Ev.bind lives_ev ?_)
  refine Ev.congr (fun k => by rw [if_pos rfl, early60, ← hp, Option.bind_some]) ?_
  refine Ev.bind (Of_ev l0 l1 g0 g1) (Ev.bind (refOf_ev l0 l1 g0 g1) (Ev.bind (SameT_ev _ (by omega)) ?_))
  refine Ev.congr (fun k => if_pos rfl) ?_
  have hS := Same_ev (makeS l0 p) (makeS l0 p) (by
    have : ∀ (q : List S31) (a : List Int), (makeS a q).length = a.length := by
      intro q
      induction q with
      | nil => intro a; rfl
      | cons c q ih => intro a; rw [makeS, List.foldl_cons]; exact (ih (put a c)).trans (put_len a c)
    rw [this]; omega)
  rw [decide_eq_true rfl] at hS
  refine Ev.bind (Make_ev l0 p g0 (by omega)) (Ev.bind (refMake_ev l0 p g0 (by omega)) (Ev.bind hS ?_))
  refine Ev.congr (fun k => if_pos rfl) ?_
  refine Ev.bind (Back_ev l0 p g0 (by omega)) (Ev.bind (refBack_ev l0 p g0 (by omega)) (Ev.bind (SameT_ev _ (by omega)) ?_))
  refine Ev.congr (fun k => if_pos rfl) ?_
  refine Ev.bind (Right_ev p (by omega)) (Ev.bind (refRight_ev p (by omega)) ?_)
  exact Ev.congr (f := fun _ => some true) (fun k => by simp) (Ev.now _)
end Go.Proofs.Ytldlacphokbgcaa.Pure
