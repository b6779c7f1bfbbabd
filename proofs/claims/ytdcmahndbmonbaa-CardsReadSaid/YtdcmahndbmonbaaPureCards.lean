/- What the cards' functions compute: their words, and what is read of words. -/
import Derived.Test.YtdcmahndbmonbaaPureBase
namespace Go.Proofs.Ytdcmahndbmonbaa.Pure
open Go.RowKit Go.Proofs.Ytdcmahndbmonbaa.Print Go.Proofs.YtdcmahndbmonbaaW.PrintWords Go.Proofs.YtdcmahndbmonbaaW.PrintLast Go.Proofs.YtdcmahndbmonbaaW.PrintMore

def FL : List S45 := [⟨0, 0, 8⟩, ⟨0, 8, 16⟩, ⟨0, 24, 32⟩, ⟨2, 0, 16⟩, ⟨2, 16, 16⟩, ⟨2, 32, 16⟩, ⟨2, 48, 16⟩, ⟨3, 0, 16⟩, ⟨3, 16, 16⟩]
theorem fields_ev : Ev (fun k => cards_fields.f k) FL := Ev.of (fun k => cards_fields.mono k) (k := 10) (by kernel_rfl)
theorem lives_ev : Ev (fun _ => escritoirelaw06_lives.f) true := Ev.now true

/-! ### lists alike -/
theorem drop_cons (l : List Int) (i : Nat) (h : i < l.length) : l.drop i = l[i] :: l.drop (i + 1) := List.drop_eq_getElem_cons h
theorem Same_ev (l m : List Int) (h : l.length ≤ 140737488351232) : Ev (fun k => escritoireref01_Same.f k l m) (decide (l = m)) := by
  by_cases hl : l.length = m.length
  · have key : ∀ (d i : Nat), i + d = l.length → Ev (fun k => escritoireref01_Same.l0 k l m (i : Int)) (decide (l.drop i = m.drop i)) := by
      intro d
      induction d with
      | zero =>
        intro i hi
        rw [List.drop_of_length_le (by omega), List.drop_of_length_le (by omega), decide_eq_true rfl]
        exact Ev.step (fun k => by simp only [escritoireref01_Same.l0]; rw [if_neg (by omega)]) (Ev.now _)
      | succ d ih =>
        intro i hi
        by_cases e : l[i]'(by omega) = m[i]'(by omega)
        · have := ih (i + 1) (by omega)
          have e2 : decide (l.drop i = m.drop i) = decide (l.drop (i + 1) = m.drop (i + 1)) := by
            exact decide_eq_decide.2 (by rw [drop_cons l i (by omega), drop_cons m i (by omega), e]; exact ⟨fun h => (List.cons.inj h).2, fun h => by rw [h]⟩)
          rw [e2]
          refine Ev.step (fun k => ?_) this
          simp only [escritoireref01_Same.l0]
          rw [if_pos (by omega), if_pos (by omega), if_pos (by omega), rd_nat l i (by omega), rd_nat m i (by omega), if_pos e, wrap_id (by omega) (by omega)]
          rfl
        · have e2 : decide (l.drop i = m.drop i) = false := by
            exact decide_eq_false (by rw [drop_cons l i (by omega), drop_cons m i (by omega)]; exact fun h => e (List.cons.inj h).1)
          rw [e2]
          refine Ev.step (f := fun _ => some false) (fun k => ?_) (Ev.now _)
          simp only [escritoireref01_Same.l0]
          rw [if_pos (by omega), if_pos (by omega), if_pos (by omega), rd_nat l i (by omega), rd_nat m i (by omega), if_neg e]
    exact Ev.congr (fun k => by unfold escritoireref01_Same.f; rw [if_pos (by omega)]; rfl) (key l.length 0 (by omega))
  · have : decide (l = m) = false := decide_eq_false (fun e => hl (by rw [e]))
    rw [this]
    exact Ev.congr (f := fun _ => some false) (fun k => by unfold escritoireref01_Same.f; rw [if_neg (by omega)]) (Ev.now _)
theorem Equal_ev (l m : List Int) (h : l.length ≤ 140737488351232) : Ev (fun k => slices_Equal_uint64_uint64.f k l m) (decide (l = m)) := by
  by_cases hl : l.length = m.length
  · have key : ∀ (d i : Nat), i + d = l.length → Ev (fun k => slices_Equal_uint64_uint64.l0 k l m (l.length : Int) (i : Int)) (decide (l.drop i = m.drop i)) := by
      intro d
      induction d with
      | zero =>
        intro i hi
        rw [List.drop_of_length_le (by omega), List.drop_of_length_le (by omega), decide_eq_true rfl]
        exact Ev.step (fun k => by simp only [slices_Equal_uint64_uint64.l0]; rw [if_neg (by omega)]) (Ev.now _)
      | succ d ih =>
        intro i hi
        by_cases e : l[i]'(by omega) = m[i]'(by omega)
        · have := ih (i + 1) (by omega)
          have e2 : decide (l.drop i = m.drop i) = decide (l.drop (i + 1) = m.drop (i + 1)) := by
            exact decide_eq_decide.2 (by rw [drop_cons l i (by omega), drop_cons m i (by omega), e]; exact ⟨fun h => (List.cons.inj h).2, fun h => by rw [h]⟩)
          rw [e2]
          refine Ev.step (fun k => ?_) this
          simp only [slices_Equal_uint64_uint64.l0]
          rw [if_pos (by omega), if_pos (by omega), if_pos (by omega), if_pos (by omega), rd_nat l i (by omega), rd_nat m i (by omega), if_pos e, wrap_id (by omega) (by omega)]
          rfl
        · have e2 : decide (l.drop i = m.drop i) = false := by
            exact decide_eq_false (by rw [drop_cons l i (by omega), drop_cons m i (by omega)]; exact fun h => e (List.cons.inj h).1)
          rw [e2]
          refine Ev.step (f := fun _ => some false) (fun k => ?_) (Ev.now _)
          simp only [slices_Equal_uint64_uint64.l0]
          rw [if_pos (by omega), if_pos (by omega), if_pos (by omega), if_pos (by omega), rd_nat l i (by omega), rd_nat m i (by omega), if_neg e]
    exact Ev.congr (fun k => by unfold slices_Equal_uint64_uint64.f; rw [if_pos (by omega)]; rfl) (key l.length 0 (by omega))
  · have : decide (l = m) = false := decide_eq_false (fun e => hl (by rw [e]))
    rw [this]
    exact Ev.congr (f := fun _ => some false) (fun k => by unfold slices_Equal_uint64_uint64.f; rw [if_neg (by omega)]) (Ev.now _)

/-! ### which cards may be -/
theorem block_f (x : Int) : escritoireref06_block.f x = some (!oddB x) := by
  unfold escritoireref06_block.f oddB
  by_cases c : x ≥ -1
  · rw [if_pos c, decide_eq_false (by omega : ¬ x < -1)]
    by_cases d : x < 96
    · rw [decide_eq_true d, decide_eq_false (by omega)]; rfl
    · rw [decide_eq_false d, decide_eq_true (by omega)]; rfl
  · rw [if_neg c, decide_eq_true (by omega)]; rfl
def finB (a0 a1 a2 a9 : Int) : Bool := decide (1 ≤ a0) && (decide (a0 ≤ 3) && (fitsB a1 a2 && !oddB a9))
theorem right_fin (a0 a1 a2 a3 a4 a5 a6 a7 a8 a9 : Int) : Ev (fun k => escritoireref06_Right.l0 k 5 a0 a1 a2 a3 a4 a5 a6 a7 a8 a9) (finB a0 a1 a2 a9) := by
  refine Ev.step (f := fun _ => some (finB a0 a1 a2 a9)) (fun k => ?_) (Ev.now _)
  simp only [escritoireref06_Right.l0, block_f, Option.bind_some]
  rw [if_neg (by decide)]
  unfold finB fitsB
  by_cases h1 : 1 ≤ a0
  · rw [if_pos h1, decide_eq_true h1]
    by_cases h2 : a0 ≤ 3
    · rw [if_pos h2, decide_eq_true h2]
      by_cases h3 : 0 ≤ a1
      · rw [if_pos h3, decide_eq_true h3]
        by_cases h4 : a1 ≤ 255
        · rw [if_pos h4, decide_eq_true h4]
          by_cases h5 : 0 ≤ a2
          · rw [if_pos h5, decide_eq_true h5]
            by_cases h6 : a2 ≤ 2688
            · rw [if_pos h6, decide_eq_true h6]; rfl
            · rw [if_neg h6, decide_eq_false h6]; rfl
          · rw [if_neg h5, decide_eq_false h5]; rfl
        · rw [if_neg h4, decide_eq_false h4]; rfl
      · rw [if_neg h3, decide_eq_false h3]; rfl
    · rw [if_neg h2, decide_eq_false h2]; rfl
  · rw [if_neg h1, decide_eq_false h1]; rfl
theorem ev_and {f : Nat → Option Bool} {b : Bool} (x : Bool) (h : Ev f b) : Ev (fun k => if x = true then f k else some false) (x && b) := by
  cases x
  · exact Ev.congr (f := fun _ => some false) (fun k => by simp) (Ev.now _)
  · exact Ev.congr (f := f) (fun k => by simp) h
theorem refRight_ev (a0 a1 a2 a3 a4 a5 a6 a7 a8 a9 : Int) : Ev (fun k => escritoireref06_Right.f k a0 a1 a2 a3 a4 a5 a6 a7 a8 a9) (rightB a0 a1 a2 a3 a4 a5 a6 a7 a8 a9) := by
  by_cases h0 : a0 = 0
  · subst h0
    refine Ev.congr (f := fun _ => some (rightB 0 a1 a2 a3 a4 a5 a6 a7 a8 a9)) (fun k => ?_) (Ev.now _)
    unfold escritoireref06_Right.f
    rw [if_pos rfl]
    unfold escritoireref06_None.f rightB
    simp only [Option.bind_some, if_pos]
    unfold noneB dirNone
    congr 1
    cases (a4 == -1) <;> cases (a5 == -1) <;> cases (a6 == -1) <;> cases (a7 == -1) <;> cases (a8 == -1) <;> simp
  · have step : ∀ (i : Int) (x : Int) (b : Bool) (hx : (i = 0 ∧ x = a4) ∨ (i = 1 ∧ x = a5) ∨ (i = 2 ∧ x = a6) ∨ (i = 3 ∧ x = a7) ∨ (i = 4 ∧ x = a8)) (h : Ev (fun k => escritoireref06_Right.l0 k (i + 1) a0 a1 a2 a3 a4 a5 a6 a7 a8 a9) b),
        Ev (fun k => escritoireref06_Right.l0 k i a0 a1 a2 a3 a4 a5 a6 a7 a8 a9) (!oddB x && b) := by
      intro i x b hx h
      refine Ev.step (fun k => ?_) (ev_and (!oddB x) h)
      simp only [escritoireref06_Right.l0, block_f, Option.bind_some]
      have e : wrap64 (i + 1) = i + 1 := wrap_id (by omega) (by omega)
      rw [e]
      rcases hx with ⟨rfl, rfl⟩ | ⟨rfl, rfl⟩ | ⟨rfl, rfl⟩ | ⟨rfl, rfl⟩ | ⟨rfl, rfl⟩ <;> simp
    have h5 := right_fin a0 a1 a2 a3 a4 a5 a6 a7 a8 a9
    have h4 := step 4 a8 _ (by simp) h5
    have h3 := step 3 a7 _ (by simp) h4
    have h2 := step 2 a6 _ (by simp) h3
    have h1 := step 1 a5 _ (by simp) h2
    have hz := step 0 a4 _ (by simp) h1
    have e : rightB a0 a1 a2 a3 a4 a5 a6 a7 a8 a9 = (!oddB a4 && (!oddB a5 && (!oddB a6 && (!oddB a7 && (!oddB a8 && finB a0 a1 a2 a9))))) := by
      unfold rightB finB
      rw [if_neg h0]
      by_cases k1 : a0 = 1 ∨ a0 = 2 ∨ a0 = 3
      · rw [if_pos k1, decide_eq_true (by omega : 1 ≤ a0), decide_eq_true (by omega : a0 ≤ 3)]
        simp only [List.any_cons, List.any_nil]
        cases oddB a4 <;> cases oddB a5 <;> cases oddB a6 <;> cases oddB a7 <;> cases oddB a8 <;> cases oddB a9 <;> cases fitsB a1 a2 <;> rfl
      · rw [if_neg k1]
        have : (decide (1 ≤ a0) && (decide (a0 ≤ 3) && (fitsB a1 a2 && !oddB a9))) = false := by
          by_cases g : 1 ≤ a0
          · rw [decide_eq_false (by omega : ¬ a0 ≤ 3)]; simp
          · rw [decide_eq_false g]; rfl
        rw [this]
        simp
    rw [e]
    refine Ev.congr (fun k => ?_) hz
    unfold escritoireref06_Right.f
    rw [if_neg h0]

/-- What a card that may be is made of. -/
theorem right_bounds {a0 a1 a2 a3 a4 a5 a6 a7 a8 a9 : Int} (h : rightB a0 a1 a2 a3 a4 a5 a6 a7 a8 a9 = true) :
    (0 ≤ a0 ∧ a0 ≤ 3) ∧ (0 ≤ a1 ∧ a1 ≤ 255) ∧ (0 ≤ a2 ∧ a2 ≤ 2688) ∧ (-1 ≤ a4 ∧ a4 ≤ 95) ∧ (-1 ≤ a5 ∧ a5 ≤ 95) ∧ (-1 ≤ a6 ∧ a6 ≤ 95) ∧ (-1 ≤ a7 ∧ a7 ≤ 95) ∧ (-1 ≤ a8 ∧ a8 ≤ 95) ∧ (-1 ≤ a9 ∧ a9 ≤ 95) := by
  unfold rightB at h
  by_cases h0 : a0 = 0
  · rw [if_pos h0] at h
    unfold dirNone noneB at h
    simp at h
    omega
  · rw [if_neg h0] at h
    by_cases k1 : a0 = 1 ∨ a0 = 2 ∨ a0 = 3
    · rw [if_pos k1] at h
      unfold fitsB oddB at h
      simp at h
      omega
    · rw [if_neg k1] at h
      cases h
end Go.Proofs.Ytdcmahndbmonbaa.Pure
