/- A card's words are what the document says, of any card. -/
import Derived.Test.YtdcmahndbmonbaaPureCodec
namespace Go.Proofs.Ytdcmahndbmonbaa.Pure
open Go.RowKit Go.Proofs.Ytdcmahndbmonbaa.Print Go.Proofs.YtdcmahndbmonbaaW.PrintWords Go.Proofs.YtdcmahndbmonbaaW.PrintLast Go.Proofs.YtdcmahndbmonbaaW.PrintMore

theorem encR_len (a0 a1 a2 a3 a4 a5 a6 a7 a8 a9 : Int) : (encR a0 a1 a2 a3 a4 a5 a6 a7 a8 a9).1.length ≤ 140737488351232 := by
  unfold encR enc
  split <;> simp
theorem CardsWrite : escritoirelaw06_CardsWrite.Pure := by
  intro c _
  have hW := Write_ev c.f0 c.f1 c.f2 c.f3 c.f4.f0 c.f4.f1 c.f4.f2 c.f4.f3 c.f4.f4 c.f5
  have hV := refWrite_ev c.f0 c.f1 c.f2 c.f3 c.f4.f0 c.f4.f1 c.f4.f2 c.f4.f3 c.f4.f4 c.f5
  have hR := refRight_ev c.f0 c.f1 c.f2 c.f3 c.f4.f0 c.f4.f1 c.f4.f2 c.f4.f3 c.f4.f4 c.f5
  have hS := Same_ev _ (encR c.f0 c.f1 c.f2 c.f3 c.f4.f0 c.f4.f1 c.f4.f2 c.f4.f3 c.f4.f4 c.f5).1 (encR_len c.f0 c.f1 c.f2 c.f3 c.f4.f0 c.f4.f1 c.f4.f2 c.f4.f3 c.f4.f4 c.f5)
  rw [decide_eq_true rfl] at hS
  refine Ev.rounds (r := true) (Ev.congr (fun k => by unfold escritoirelaw06_CardsWrite.f; rfl) (Ev.bind lives_ev ?_))
  refine Ev.congr (fun k => if_pos rfl) (Ev.bind hW (Ev.bind hV (Ev.bind hS ?_)))
  refine Ev.congr (fun k => (if_pos rfl).trans (if_pos rfl)) ?_
  unfold cards_Right.f
  refine Ev.congr (fun k => Option.bind_some _ _) (Ev.bind hR ?_)
  exact Ev.congr (f := fun _ => some true) (fun k => by simp) (Ev.now _)
end Go.Proofs.Ytdcmahndbmonbaa.Pure
