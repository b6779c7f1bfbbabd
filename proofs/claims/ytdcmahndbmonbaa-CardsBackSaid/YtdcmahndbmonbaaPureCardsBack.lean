/- What is written is read again; what is read is just what is written. -/
import Derived.Test.YtdcmahndbmonbaaPureReads
namespace Go.Proofs.Ytdcmahndbmonbaa.Pure
open Go.RowKit Go.Proofs.Ytdcmahndbmonbaa.Print Go.Proofs.YtdcmahndbmonbaaW.PrintWords Go.Proofs.YtdcmahndbmonbaaW.PrintLast Go.Proofs.YtdcmahndbmonbaaW.PrintMore

theorem nat_at' {l : List Int} (hl : l.length = 8) (hw : ∀ x ∈ l, (Lit.int .u64 x).wf = true) (i : Nat) (hi : i < 8) : ∃ n : Nat, rd l (i : Int) = (n : Int) ∧ n < 2 ^ 64 := by
  rw [rd_nat l i (by omega)]
  exact wfu64 (hw _ (List.getElem_mem (by omega)))
theorem Read_enc {a0 a1 a2 a3 a4 a5 a6 a7 a8 a9 : Int} (h : rightB a0 a1 a2 a3 a4 a5 a6 a7 a8 a9 = true) : Ev (fun k => cards_Read.f k (enc a0 a1 a2 a3 a4 a5 a6 a7 a8 a9)) (a0, a1, a2, a3, a4, a5, a6, a7, a8, a9, 0) := by
  obtain ⟨b0, b1, b2, b4, b5, b6, b7, b8, b9⟩ := right_bounds h
  obtain ⟨w0, e0⟩ := Int.eq_ofNat_of_zero_le (show 0 ≤ a0 + a1 * 256 + a2 * 16777216 by omega)
  obtain ⟨w2, e2⟩ := Int.eq_ofNat_of_zero_le (show 0 ≤ (a4 + 1) + (a5 + 1) * 65536 + (a6 + 1) * 4294967296 + (a7 + 1) * 281474976710656 by omega)
  obtain ⟨w3, e3⟩ := Int.eq_ofNat_of_zero_le (show 0 ≤ (a8 + 1) + (a9 + 1) * 65536 by omega)
  have r := Read_ev (l := enc a0 a1 a2 a3 a4 a5 a6 a7 a8 a9) rfl (w0 := w0) (w2 := w2) (w3 := w3) e0 e2 e3 (by omega) (by omega) (by omega)
  have g0 : ((getN w0 0 8 : Nat) : Int) = a0 := by rw [getN_div]; omega
  have g1 : ((getN w0 8 16 : Nat) : Int) = a1 := by rw [getN_div]; omega
  have g2 : ((getN w0 24 32 : Nat) : Int) = a2 := by rw [getN_div]; omega
  have g4 : ((getN w2 0 16 : Nat) : Int) - 1 = a4 := by rw [getN_div]; omega
  have g5 : ((getN w2 16 16 : Nat) : Int) - 1 = a5 := by rw [getN_div]; omega
  have g6 : ((getN w2 32 16 : Nat) : Int) - 1 = a6 := by rw [getN_div]; omega
  have g7 : ((getN w2 48 16 : Nat) : Int) - 1 = a7 := by rw [getN_div]; omega
  have g8 : ((getN w3 0 16 : Nat) : Int) - 1 = a8 := by rw [getN_div]; omega
  have g9 : ((getN w3 16 16 : Nat) : Int) - 1 = a9 := by rw [getN_div]; omega
  have g3 : rd (enc a0 a1 a2 a3 a4 a5 a6 a7 a8 a9) 1 = a3 := rfl
  rw [g0, g1, g2, g3, g4, g5, g6, g7, g8, g9] at r
  unfold outR at r
  rw [if_pos ⟨h, rfl⟩] at r
  exact r
theorem back_done {l : List Int} (hw : ∀ x ∈ l, (Lit.int .u64 x).wf = true) : Ev (fun k => escritoirelaw06_CardsBack.j0 k l false) true := by
  have fin : ∀ c : C11, c = bad ∨ (∃ a0 a1 a2 a3 a4 a5 a6 a7 a8 a9, c = (a0, a1, a2, a3, a4, a5, a6, a7, a8, a9, 0) ∧ rightB a0 a1 a2 a3 a4 a5 a6 a7 a8 a9 = true ∧ enc a0 a1 a2 a3 a4 a5 a6 a7 a8 a9 = l) → Ev (fun k => cards_Read.f k l) c → Ev (fun k => escritoirelaw06_CardsBack.j0 k l false) true := by
    intro c hc hE
    refine Ev.step (fun k => by simp only [escritoirelaw06_CardsBack.j0]; rw [if_neg (by decide)]) (Ev.bind hE ?_)
    rcases hc with rfl | ⟨a0, a1, a2, a3, a4, a5, a6, a7, a8, a9, rfl, hr, he⟩
    · refine Ev.bind (Write_ev 0 0 0 0 0 0 0 0 0 0) ?_
      exact Ev.congr (f := fun _ => some true) (fun k => by unfold bad; simp) (Ev.now _)
    · refine Ev.bind (Write_ev a0 a1 a2 a3 a4 a5 a6 a7 a8 a9) ?_
      have eA : encR a0 a1 a2 a3 a4 a5 a6 a7 a8 a9 = (enc a0 a1 a2 a3 a4 a5 a6 a7 a8 a9, 0) := by unfold encR; rw [if_pos hr]
      rw [eA]
      have hS := Same_ev (enc a0 a1 a2 a3 a4 a5 a6 a7 a8 a9) l (by unfold enc; simp)
      rw [decide_eq_true he] at hS
      refine Ev.congr (fun k => (if_pos rfl).trans (if_pos rfl)) (Ev.bind hS ?_)
      exact Ev.congr (f := fun _ => some true) (fun k => by simp) (Ev.now _)
  by_cases hl : l.length = 8
  · obtain ⟨w0, h0, b0⟩ := nat_at' hl hw 0 (by omega)
    obtain ⟨w2, h2, b2⟩ := nat_at' hl hw 2 (by omega)
    obtain ⟨w3, h3, b3⟩ := nat_at' hl hw 3 (by omega)
    refine fin _ ?_ (Read_ev hl h0 h2 h3 b0 b2 b3)
    unfold outR
    split
    · rename_i g
      exact .inr ⟨_, _, _, _, _, _, _, _, _, _, rfl, g.1, g.2⟩
    · exact .inl rfl
  · exact fin _ (.inl rfl) (Read_no hl)
theorem CardsBack : escritoirelaw06_CardsBack.Pure := by
  intro c l _ ⟨_, _, hw⟩
  have hW := Write_ev c.f0 c.f1 c.f2 c.f3 c.f4.f0 c.f4.f1 c.f4.f2 c.f4.f3 c.f4.f4 c.f5
  refine Ev.rounds (r := true) (Ev.congr (fun k => by unfold escritoirelaw06_CardsBack.f; rfl) (Ev.bind lives_ev ?_))
  refine Ev.congr (fun k => if_pos rfl) (Ev.bind hW ?_)
  generalize c.f0 = a0 at *
  generalize c.f1 = a1 at *
  generalize c.f2 = a2 at *
  generalize c.f3 = a3 at *
  generalize c.f4.f0 = a4 at *
  generalize c.f4.f1 = a5 at *
  generalize c.f4.f2 = a6 at *
  generalize c.f4.f3 = a7 at *
  generalize c.f4.f4 = a8 at *
  generalize c.f5 = a9 at *
  by_cases hr : rightB a0 a1 a2 a3 a4 a5 a6 a7 a8 a9 = true
  · have eA : encR a0 a1 a2 a3 a4 a5 a6 a7 a8 a9 = (enc a0 a1 a2 a3 a4 a5 a6 a7 a8 a9, 0) := by unfold encR; rw [if_pos hr]
    rw [eA]
    refine Ev.bind (Read_enc hr) ?_
    exact Ev.congr (f := fun k => escritoirelaw06_CardsBack.j0 k l false) (fun k => by simp) (back_done hw)
  · have eA : encR a0 a1 a2 a3 a4 a5 a6 a7 a8 a9 = ([], 1) := by unfold encR; rw [if_neg hr]
    rw [eA]
    refine Ev.bind (Read_no (l := []) (by decide)) ?_
    exact Ev.congr (f := fun k => escritoirelaw06_CardsBack.j0 k l false) (fun k => by simp) (back_done hw)
end Go.Proofs.Ytdcmahndbmonbaa.Pure
