/- What the cards' functions compute: their words, and what is read of words. -/
import Derived.Test.YtdcmahndbmonbaaPureBase
namespace Go.Proofs.Ytdcmahndbmonbaa.Pure
open Go.RowKit Go.Proofs.Ytdcmahndbmonbaa.Print Go.Proofs.YtdcmahndbmonbaaW.PrintWords Go.Proofs.YtdcmahndbmonbaaW.PrintLast Go.Proofs.YtdcmahndbmonbaaW.PrintMore

def FL : List S45 := [⟨0, 0, 8⟩, ⟨0, 8, 16⟩, ⟨0, 24, 32⟩, ⟨2, 0, 16⟩, ⟨2, 16, 16⟩, ⟨2, 32, 16⟩, ⟨2, 48, 16⟩, ⟨3, 0, 16⟩, ⟨3, 16, 16⟩]
theorem fields_ev : Ev (fun k => cards_fields.f k) FL := Ev.of (fun k => cards_fields.mono k) (k := 10) (by kernel_rfl)
theorem lives_ev : Ev (fun _ => escritoirelaw06_lives.f) true := Ev.now true

/-! ### lists alike -/
theorem drop_cons (l : List Int) (i : Nat) (h : i < l.length) : l.drop i = l[i] :: l.drop (i + 1) := List.drop_eq_getElem_cons h
theorem Same_ev (l m : List Int) (h : l.length ≤ 140737488351232) : Ev (fun k => escritoireref01_Same.f k l m) (decide (l = m)) := by
  by_cases hl : l.length = m.length
  · have key : ∀ (d i : Nat), i + d = l.length → Ev (fun k => escritoireref01_Same.l0 k l m (i : Int)) (decide (l.drop i = m.drop i)) := by
      intro d
      induction d with
      | zero =>
        intro i hi
        rw [List.drop_of_length_le (by omega), List.drop_of_length_le (by omega), decide_eq_true rfl]
        exact Ev.step (fun k => by simp only [escritoireref01_Same.l0]; rw [if_neg (by omega)]) (Ev.now _)
      | succ d ih =>
        intro i hi
        by_cases e : l[i]'(by omega) = m[i]'(by omega)
        · have := ih (i + 1) (by omega)
          have e2 : decide (l.drop i = m.drop i) = decide (l.drop (i + 1) = m.drop (i + 1)) := by
            exact decide_eq_decide.2 (by rw [drop_cons l i (by omega), drop_cons m i (by omega), e]; exact ⟨fun h => (List.cons.inj h).2, fun h => by rw [h]⟩)
          rw [e2]
          refine Ev.step (fun k => ?_) this
          simp only [escritoireref01_Same.l0]
          rw [if_pos (by omega), if_pos (by omega), if_pos (by omega), rd_nat l i (by omega), rd_nat m i (by omega), if_pos e, wrap_id (by omega) (by omega)]
          rfl
        · have e2 : decide (l.drop i = m.drop i) = false := by
            exact decide_eq_false (by rw [drop_cons l i (by omega), drop_cons m i (by omega)]; exact fun h => e (List.cons.inj h).1)
          rw [e2]
          refine Ev.step (f := fun _ => some false) (fun k => ?_) (Ev.now _)
          simp only [escritoireref01_Same.l0]
          rw [if_pos (by omega), if_pos (by omega), if_pos (by omega), rd_nat l i (by omega), rd_nat m i (by omega), if_neg e]
    exact Ev.congr (fun k => by unfold escritoireref01_Same.f; rw [if_pos (by omega)]; rfl) (key l.length 0 (by omega))
  · have : decide (l = m) = false := decide_eq_false (fun e => hl (by rw [e]))
    rw [this]
    exact Ev.congr (f := fun _ => some false) (fun k => by unfold escritoireref01_Same.f; rw [if_neg (by omega)]) (Ev.now _)
theorem Equal_ev (l m : List Int) (h : l.length ≤ 140737488351232) : Ev (fun k => slices_Equal_uint64_uint64.f k l m) (decide (l = m)) := by
  by_cases hl : l.length = m.length
  · have key : ∀ (d i : Nat), i + d = l.length → Ev (fun k => slices_Equal_uint64_uint64.l0 k l m (l.length : Int) (i : Int)) (decide (l.drop i = m.drop i)) := by
      intro d
      induction d with
      | zero =>
        intro i hi
        rw [List.drop_of_length_le (by omega), List.drop_of_length_le (by omega), decide_eq_true rfl]
        exact Ev.step (fun k => by simp only [slices_Equal_uint64_uint64.l0]; rw [if_neg (by omega)]) (Ev.now _)
      | succ d ih =>
        intro i hi
        by_cases e : l[i]'(by omega) = m[i]'(by omega)
        · have := ih (i + 1) (by omega)
          have e2 : decide (l.drop i = m.drop i) = decide (l.drop (i + 1) = m.drop (i + 1)) := by
            exact decide_eq_decide.2 (by rw [drop_cons l i (by omega), drop_cons m i (by omega), e]; exact ⟨fun h => (List.cons.inj h).2, fun h => by rw [h]⟩)
          rw [e2]
          refine Ev.step (fun k => ?_) this
          simp only [slices_Equal_uint64_uint64.l0]
          rw [if_pos (by omega), if_pos (by omega), if_pos (by omega), if_pos (by omega), rd_nat l i (by omega), rd_nat m i (by omega), if_pos e, wrap_id (by omega) (by omega)]
          rfl
        · have e2 : decide (l.drop i = m.drop i) = false := by
            exact decide_eq_false (by rw [drop_cons l i (by omega), drop_cons m i (by omega)]; exact fun h => e (List.cons.inj h).1)
          rw [e2]
          refine Ev.step (f := fun _ => some false) (fun k => ?_) (Ev.now _)
          simp only [slices_Equal_uint64_uint64.l0]
          rw [if_pos (by omega), if_pos (by omega), if_pos (by omega), if_pos (by omega), rd_nat l i (by omega), rd_nat m i (by omega), if_neg e]
    exact Ev.congr (fun k => by unfold slices_Equal_uint64_uint64.f; rw [if_pos (by omega)]; rfl) (key l.length 0 (by omega))
  · have : decide (l = m) = false := decide_eq_false (fun e => hl (by rw [e]))
    rw [this]
    exact Ev.congr (f := fun _ => some false) (fun k => by unfold slices_Equal_uint64_uint64.f; rw [if_neg (by omega)]) (Ev.now _)

/-! ### which cards may be -/
/-- What a card that may be is made of. -/
theorem right_bounds {a0 a1 a2 a3 a4 a5 a6 a7 a8 a9 : Int} (h : rightB a0 a1 a2 a3 a4 a5 a6 a7 a8 a9 = true) :
    (0 ≤ a0 ∧ a0 ≤ 3) ∧ (0 ≤ a1 ∧ a1 ≤ 255) ∧ (0 ≤ a2 ∧ a2 ≤ 2688) ∧ (-1 ≤ a4 ∧ a4 ≤ 95) ∧ (-1 ≤ a5 ∧ a5 ≤ 95) ∧ (-1 ≤ a6 ∧ a6 ≤ 95) ∧ (-1 ≤ a7 ∧ a7 ≤ 95) ∧ (-1 ≤ a8 ∧ a8 ≤ 95) ∧ (-1 ≤ a9 ∧ a9 ≤ 95) := by
  unfold rightB at h
  by_cases h0 : a0 = 0
  · rw [if_pos h0] at h
    unfold dirNone noneB at h
    simp at h
    omega
  · rw [if_neg h0] at h
    by_cases k1 : a0 = 1 ∨ a0 = 2 ∨ a0 = 3
    · rw [if_pos k1] at h
      unfold fitsB oddB at h
      simp at h
      omega
    · rw [if_neg k1] at h
      cases h
end Go.Proofs.Ytdcmahndbmonbaa.Pure
