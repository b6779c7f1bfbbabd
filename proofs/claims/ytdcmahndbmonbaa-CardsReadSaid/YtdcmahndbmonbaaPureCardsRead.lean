/- The card of any words is what the document says. -/
import Derived.Test.YtdcmahndbmonbaaPureReads
namespace Go.Proofs.Ytdcmahndbmonbaa.Pure
open Go.RowKit Go.Proofs.Ytdcmahndbmonbaa.Print Go.Proofs.YtdcmahndbmonbaaW.PrintWords Go.Proofs.YtdcmahndbmonbaaW.PrintLast Go.Proofs.YtdcmahndbmonbaaW.PrintMore

theorem nat_at {l : List Int} (hl : l.length = 8) (hw : ∀ x ∈ l, (Lit.int .u64 x).wf = true) (i : Nat) (hi : i < 8) : ∃ n : Nat, rd l (i : Int) = (n : Int) ∧ n < 2 ^ 64 := by
  rw [rd_nat l i (by omega)]
  exact wfu64 (hw _ (List.getElem_mem (by omega)))
theorem CardsRead : escritoirelaw06_CardsRead.Pure := by
  intro l ⟨_, _, hw⟩
  have key : ∃ c : C11, Ev (fun k => cards_Read.f k l) c ∧ Ev (fun k => escritoireref06_Read.f k l) c := by
    by_cases hl : l.length = 8
    · obtain ⟨w0, h0, b0⟩ := nat_at hl hw 0 (by omega)
      obtain ⟨w2, h2, b2⟩ := nat_at hl hw 2 (by omega)
      obtain ⟨w3, h3, b3⟩ := nat_at hl hw 3 (by omega)
      exact ⟨_, Read_ev hl h0 h2 h3 b0 b2 b3, refRead_ev hl h0 h2 h3 b0 b2 b3⟩
    · exact ⟨_, Read_no hl, refRead_no hl⟩
  obtain ⟨c, hA, hB⟩ := key
  refine Ev.rounds (r := true) (Ev.congr (fun k => by unfold escritoirelaw06_CardsRead.f; rfl) (Ev.bind lives_ev ?_))
  refine Ev.congr (fun k => if_pos rfl) (Ev.bind hA (Ev.bind hB ?_))
  exact Ev.congr (f := fun _ => some true) (fun k => by simp) (Ev.now _)
end Go.Proofs.Ytdcmahndbmonbaa.Pure
