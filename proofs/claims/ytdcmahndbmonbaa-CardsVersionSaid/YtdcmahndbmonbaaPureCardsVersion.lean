/- The version is the second word; the number of bytes stands in the first alone. -/
import Derived.Test.YtdcmahndbmonbaaPureCardsWrite
namespace Go.Proofs.Ytdcmahndbmonbaa.Pure
open Go.RowKit Go.Proofs.Ytdcmahndbmonbaa.Print Go.Proofs.YtdcmahndbmonbaaW.PrintWords Go.Proofs.YtdcmahndbmonbaaW.PrintLast Go.Proofs.YtdcmahndbmonbaaW.PrintMore

theorem right_version (a0 a1 a2 a3 v a4 a5 a6 a7 a8 a9 : Int) : rightB a0 a1 a2 a3 a4 a5 a6 a7 a8 a9 = rightB a0 a1 a2 v a4 a5 a6 a7 a8 a9 := by
  unfold rightB noneB
  simp
theorem right_size {a0 a1 a2 a3 s a4 a5 a6 a7 a8 a9 : Int} (h0 : a0 ≠ 0) (hs : 0 ≤ s ∧ s ≤ 2688) (h : rightB a0 a1 a2 a3 a4 a5 a6 a7 a8 a9 = true) : rightB a0 a1 s a3 a4 a5 a6 a7 a8 a9 = true := by
  unfold rightB at h ⊢
  rw [if_neg h0] at h ⊢
  by_cases k1 : a0 = 1 ∨ a0 = 2 ∨ a0 = 3
  · rw [if_pos k1] at h ⊢
    unfold fitsB at h ⊢
    simp only [Bool.and_eq_true, decide_eq_true_eq] at h ⊢
    exact ⟨⟨h.1.1, h.1.2.1, hs.1, hs.2⟩, h.2⟩
  · rw [if_neg k1] at h
    cases h
/-- The loop over the eight words. -/
theorem vloop (x0 x1 x2 x3 v y0 g : Int) (m : List Int) (hm : g = 0 → m = [y0, x1, x2, x3, 0, 0, 0, 0]) :
    Ev (fun k => escritoirelaw06_CardsVersion.l0 k [x0, x1, x2, x3, 0, 0, 0, 0] [x0, v, x2, x3, 0, 0, 0, 0] m g 0) true := by
  have last : Ev (fun k => escritoirelaw06_CardsVersion.l0 k [x0, x1, x2, x3, 0, 0, 0, 0] [x0, v, x2, x3, 0, 0, 0, 0] m g 8) true :=
    Ev.step (f := fun _ => some true) (fun k => by simp only [escritoirelaw06_CardsVersion.l0]; rw [if_neg (by decide)]) (Ev.now _)
  have e : ∀ i : Int, 0 ≤ i → i < 8 → wrap64 (i + 1) = i + 1 := fun i h0 h1 => wrap_id (by omega) (by omega)
  by_cases hg : g = 0
  · have hm2 := hm hg
    clear hm
    subst hm2
    subst hg
    have s : ∀ i : Nat, i < 8 → Ev (fun k => escritoirelaw06_CardsVersion.l0 k [x0, x1, x2, x3, 0, 0, 0, 0] [x0, v, x2, x3, 0, 0, 0, 0] [y0, x1, x2, x3, 0, 0, 0, 0] 0 ((i + 1 : Nat) : Int)) true → Ev (fun k => escritoirelaw06_CardsVersion.l0 k [x0, x1, x2, x3, 0, 0, 0, 0] [x0, v, x2, x3, 0, 0, 0, 0] [y0, x1, x2, x3, 0, 0, 0, 0] 0 (i : Int)) true := by
      intro i hi h
      refine Ev.step (fun k => ?_) h
      simp only [escritoirelaw06_CardsVersion.l0]
      rw [if_pos (by omega), e _ (by omega) (by omega)]
      obtain rfl | rfl | rfl | rfl | rfl | rfl | rfl | rfl : i = 0 ∨ i = 1 ∨ i = 2 ∨ i = 3 ∨ i = 4 ∨ i = 5 ∨ i = 6 ∨ i = 7 := by omega
      all_goals simp [rd]
    exact s 0 (by omega) (s 1 (by omega) (s 2 (by omega) (s 3 (by omega) (s 4 (by omega) (s 5 (by omega) (s 6 (by omega) (s 7 (by omega) last)))))))
  · have s : ∀ i : Nat, i < 8 → Ev (fun k => escritoirelaw06_CardsVersion.l0 k [x0, x1, x2, x3, 0, 0, 0, 0] [x0, v, x2, x3, 0, 0, 0, 0] m g ((i + 1 : Nat) : Int)) true → Ev (fun k => escritoirelaw06_CardsVersion.l0 k [x0, x1, x2, x3, 0, 0, 0, 0] [x0, v, x2, x3, 0, 0, 0, 0] m g (i : Int)) true := by
      intro i hi h
      refine Ev.step (fun k => ?_) h
      simp only [escritoirelaw06_CardsVersion.l0]
      rw [if_pos (by omega), e _ (by omega) (by omega)]
      obtain rfl | rfl | rfl | rfl | rfl | rfl | rfl | rfl : i = 0 ∨ i = 1 ∨ i = 2 ∨ i = 3 ∨ i = 4 ∨ i = 5 ∨ i = 6 ∨ i = 7 := by omega
      all_goals simp [rd, hg]
    exact s 0 (by omega) (s 1 (by omega) (s 2 (by omega) (s 3 (by omega) (s 4 (by omega) (s 5 (by omega) (s 6 (by omega) (s 7 (by omega) last)))))))
theorem CardsVersion : escritoirelaw06_CardsVersion.Pure := by
  intro c v s _ _ _
  obtain ⟨S, hS⟩ : ∃ S, S = wrap64 (Int.tmod (IntKind.u64.wrap s) 2689) := ⟨_, rfl⟩
  have hSb : 0 ≤ S ∧ S ≤ 2688 := by
    have h0 : 0 ≤ IntKind.u64.wrap s := by simp [IntKind.wrap, IntKind.signed, IntKind.bits]; omega
    rw [hS, Int.tmod_eq_emod_of_nonneg h0, wrap_id (by omega) (by omega)]
    omega
  have hA := Write_ev c.f0 c.f1 c.f2 c.f3 c.f4.f0 c.f4.f1 c.f4.f2 c.f4.f3 c.f4.f4 c.f5
  have hB := Write_ev c.f0 c.f1 c.f2 v c.f4.f0 c.f4.f1 c.f4.f2 c.f4.f3 c.f4.f4 c.f5
  have hC := Write_ev c.f0 c.f1 S c.f3 c.f4.f0 c.f4.f1 c.f4.f2 c.f4.f3 c.f4.f4 c.f5
  refine Ev.rounds (r := true) (Ev.congr (fun k => by unfold escritoirelaw06_CardsVersion.f; rw [← hS]) (Ev.bind lives_ev ?_))
  refine Ev.congr (fun k => if_pos rfl) (Ev.bind hA ?_)
  generalize c.f0 = a0 at *
  generalize c.f1 = a1 at *
  generalize c.f2 = a2 at *
  generalize c.f3 = a3 at *
  generalize c.f4.f0 = a4 at *
  generalize c.f4.f1 = a5 at *
  generalize c.f4.f2 = a6 at *
  generalize c.f4.f3 = a7 at *
  generalize c.f4.f4 = a8 at *
  generalize c.f5 = a9 at *
  by_cases hr : rightB a0 a1 a2 a3 a4 a5 a6 a7 a8 a9 = true
  · have hv : rightB a0 a1 a2 v a4 a5 a6 a7 a8 a9 = true := by rw [← hr]; exact (right_version ..).symm
    have eA : encR a0 a1 a2 a3 a4 a5 a6 a7 a8 a9 = (enc a0 a1 a2 a3 a4 a5 a6 a7 a8 a9, 0) := by unfold encR; rw [if_pos hr]
    have eB : encR a0 a1 a2 v a4 a5 a6 a7 a8 a9 = (enc a0 a1 a2 v a4 a5 a6 a7 a8 a9, 0) := by unfold encR; rw [if_pos hv]
    rw [eA]
    rw [eB] at hB
    refine Ev.congr (fun k => if_pos rfl) (Ev.bind hB (Ev.bind hC ?_))
    refine Ev.congr (fun k => (if_pos rfl).trans ((if_pos (by unfold enc; simp)).trans (if_pos (by unfold enc rd; rfl)))) ?_
    have core : ∀ (m : List Int) (g : Int), (g = 0 → m = enc a0 a1 S a3 a4 a5 a6 a7 a8 a9) → Ev (fun k => escritoirelaw06_CardsVersion.j0 k (enc a0 a1 a2 a3 a4 a5 a6 a7 a8 a9) (enc a0 a1 a2 v a4 a5 a6 a7 a8 a9) m g false) true := by
      intro m g hm
      refine Ev.step (fun k => by simp only [escritoirelaw06_CardsVersion.j0]; rw [if_neg (by decide)]) ?_
      exact vloop _ _ _ _ v _ g m hm
    by_cases h0 : a0 = 0
    · refine Ev.congr (fun k => if_pos h0) (core _ _ ?_)
      unfold encR
      by_cases hs : rightB a0 a1 S a3 a4 a5 a6 a7 a8 a9 = true
      · rw [if_pos hs]; intro _; rfl
      · rw [if_neg hs]; intro h; cases h
    · have hs := right_size h0 hSb hr
      have eC : encR a0 a1 S a3 a4 a5 a6 a7 a8 a9 = (enc a0 a1 S a3 a4 a5 a6 a7 a8 a9, 0) := by unfold encR; rw [if_pos hs]
      rw [eC]
      exact Ev.congr (fun k => if_neg h0) (core _ _ (fun _ => rfl))
  · have eA : encR a0 a1 a2 a3 a4 a5 a6 a7 a8 a9 = ([], 1) := by unfold encR; rw [if_neg hr]
    rw [eA]
    exact Ev.congr (f := fun _ => some true) (fun k => by simp) (Ev.now _)
end Go.Proofs.Ytdcmahndbmonbaa.Pure
