import Derived.Test.YtmbpaienbmbhfaaDoorPureSplit
namespace Go.Proofs.YtmbpaienbmbhfaaDoor.Pure
open Go Go.RowKit Go.Proofs.YtmbpaienbmbhfaaDoor.Str Go.Proofs.YtmbpaienbmbhfaaDoor.Print Go.Proofs.YtmbpaienbmbhfaaDoorW.PrintWords Go.Proofs.YtmbpaienbmbhfaaDoorW.PrintLast Go.Proofs.YtmbpaienbmbhfaaDoorW.PrintMore
/-! Which names may be, and the names of a path. -/
/-- A path's names: none, or the root, or those of a list. -/
theorem nsplitR_cases (l : List UInt8) : nsplitR l = ([], 3) ∨ (nsplitR l = ([], 0) ∧ l = [47]) ∨ (∃ ps : List (List UInt8), ps ≠ [] ∧ nsplitR l = (ps.map mk, 0) ∧ ps.all rightL = true ∧ joinS ps = l ∧ l.length ≤ 120) := by
  unfold nsplitR
  by_cases h1 : l.head? = some 47
  · obtain ⟨r, rfl⟩ : ∃ r, l = 47 :: r := by cases l with | nil => cases h1 | cons c r => exact ⟨r, by rw [List.head?_cons] at h1; rw [Option.some.inj h1]⟩
    rw [if_pos h1]
    by_cases h2 : (47 :: r).length > 120
    · rw [if_pos h2]; exact Or.inl rfl
    · rw [if_neg h2]
      by_cases h3 : (47 :: r).drop 1 = []
      · rw [if_pos h3]; exact Or.inr (Or.inl ⟨rfl, by rw [show r = [] from h3]⟩)
      · rw [if_neg h3]
        by_cases h4 : (splitL ((47 :: r).drop 1)).all rightL = true
        · rw [if_pos h4]; exact Or.inr (Or.inr ⟨_, splitL_ne _, rfl, h4, joinS_split _, by omega⟩)
        · rw [if_neg h4]; exact Or.inl rfl
  · rw [if_neg h1]; exact Or.inl rfl
theorem nsplitR_len (l : List UInt8) : (nsplitR l).1.length ≤ 120 := by
  rcases nsplitR_cases l with h | ⟨h, _⟩ | ⟨ps, _, h, _, hj, hl⟩
  · rw [h]; exact Nat.zero_le _
  · rw [h]; exact Nat.zero_le _
  · rw [h]; show (ps.map mk).length ≤ 120
    have := joinS_len ps
    rw [List.length_map]; rw [hj] at this; omega
theorem SameTexts_ev (l : List ByteArray) (hl : l.length ≤ 1000000000) : Ev (fun k => escritoireref04_SameTexts.f k l l) true := by
  have key : ∀ (d i : Nat), i + d = l.length → Ev (fun k => escritoireref04_SameTexts.l0 k l l (i : Int)) true := by
    intro d
    induction d with
    | zero => intro i hi; exact Ev.step (f := fun _ => some true) (fun k => by simp only [escritoireref04_SameTexts.l0]; rw [if_neg (by omega)]) (Ev.now _)
    | succ d ih =>
      intro i hi
      refine Ev.step (fun k => ?_) (ih (i + 1) (by omega))
      simp only [escritoireref04_SameTexts.l0]
      rw [if_pos (by omega), if_pos (by omega), if_pos (by omega), if_pos True.intro, wrap_id (by omega) (by omega)]
      rfl
  exact Ev.congr (fun k => by unfold escritoireref04_SameTexts.f; rw [if_pos rfl]; rfl) (key l.length 0 (by omega))
theorem NamesPaths : escritoirelaw04_NamesPaths.Pure := by
  intro a0 a1 h0 h1
  apply Ev.rounds
  unfold escritoirelaw04_NamesPaths.f
  refine Ev.bind lives_ev (Ev.congr (fun k => if_pos rfl) ?_)
  refine Ev.bind (nsplit_ev a1 h1.1) (Ev.bind (refSplit_ev a1 h1.2) (Ev.bind (Right_ev a0 h0.1) (Ev.bind (refRight_ev a0 h0.1) ?_)))
  have hs := SameTexts_ev (nsplitR (L a1)).1 (by have := nsplitR_len (L a1); omega)
  refine Ev.congr (fun k => ?_) hs
  rw [if_pos (by simp), if_pos rfl]
  simp
end Go.Proofs.YtmbpaienbmbhfaaDoor.Pure
