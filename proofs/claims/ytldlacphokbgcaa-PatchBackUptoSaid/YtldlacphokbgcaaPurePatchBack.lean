/- PatchBack in plain Lean. -/
import Derived.Test.YtldlacphokbgcaaPureMakes
namespace Go.Proofs.Ytldlacphokbgcaa.Pure
open Go.RowKit Go.Proofs.Ytldlacphokbgcaa.Print Go.Proofs.YtldlacphokbgcaaW.PrintWords Go.Proofs.YtldlacphokbgcaaW.PrintLast Go.Proofs.YtldlacphokbgcaaW.PrintMore
theorem PatchBack : escritoirelaw23_PatchBack.Pure := by
  intro l0 l1 h0 h1
  apply Ev.rounds
  have g0 := h0.2
  have g1 := h1.2
  obtain ⟨a, ha⟩ : ∃ a, a = l0.take (min l0.length l1.length) := ⟨_, rfl⟩
  obtain ⟨b, hb⟩ : ∃ b, b = l1.take (min l0.length l1.length) := ⟨_, rfl⟩
  have la : a.length = min l0.length l1.length := by rw [ha, List.length_take]; omega
  have lb : b.length = min l0.length l1.length := by rw [hb, List.length_take]; omega
  have hO := ofN_len a b 0
  have hR : rightF (-1) (ofN 0 a b) = true := ofN_right a b 0 (-1) (by omega)
  have eB : backS a (ofN 0 a b) = ofN 0 b a := by have := backS_of a b [] (by omega); simpa using this
  have e1 : makeS a (ofN 0 a b) = b := by have := makeS_of a b [] (by omega); simpa using this
  have e2 : makeS b (ofN 0 b a) = a := by have := makeS_of b a [] (by omega); simpa using this
  have eL := ofN_swap a b 0
  refine Ev.congr (fun k => by unfold escritoirelaw23_PatchBack.f; rfl) (Ev.bind lives_ev ?_)
  refine Ev.congr (fun k => by rw [if_pos rfl, mn_nat, if_pos (by omega), if_pos (by omega), Option.bind_some, if_pos (by omega), Option.bind_some, Int.toNat_natCast, ← ha, ← hb]) ?_
  have hB := Back_ev a (ofN 0 a b) (by omega) (by omega)
  rw [if_pos hR, eB] at hB
  have hRi := Right_ev (ofN 0 a b) (by omega)
  rw [hR] at hRi
  have hM1 := Make_ev a (ofN 0 a b) (by omega) (by omega)
  rw [e1] at hM1
  have hM2 := Make_ev b (ofN 0 b a) (by omega) (by omega)
  rw [e2] at hM2
  have hS1 := Same_ev b b (by omega)
  rw [decide_eq_true rfl] at hS1
  have hS2 := Same_ev a a (by omega)
  rw [decide_eq_true rfl] at hS2
  have hOO := Of_ev a a (by omega) (by omega)
  rw [ofN_same] at hOO
  refine Ev.bind (Of_ev a b (by omega) (by omega)) (Ev.bind hB (Ev.bind hRi ?_))
  refine Ev.congr (fun k => if_pos rfl) (Ev.bind hM1 (Ev.bind hS1 ?_))
  refine Ev.congr (fun k => if_pos rfl) (Ev.bind hM2 (Ev.bind hS2 ?_))
  refine Ev.congr (fun k => if_pos rfl) (Ev.bind hOO ?_)
  exact Ev.congr (f := fun _ => some true) (fun k => by simp [eL]) (Ev.now _)
end Go.Proofs.Ytldlacphokbgcaa.Pure
