/- What the functions of turns compute, in plain Lean: whose turn is next. -/
import Derived.Test.YtjigomnmfhbjmaaPrintK
namespace Go.Proofs.Ytjigomnmfhbjmaa.Pure
open Go.RowKit Go.Proofs.Ytjigomnmfhbjmaa.Print Go.Proofs.YtjigomnmfhbjmaaW.PrintWords Go.Proofs.YtjigomnmfhbjmaaW.PrintLast Go.Proofs.YtjigomnmfhbjmaaW.PrintMore

theorem wrap_id {n : Int} (h0 : -9223372036854775808 ≤ n) (h1 : n < 9223372036854775808) : wrap64 n = n := by unfold wrap64; omega
theorem lives_ev : Ev (fun k => escritoirelaw22_lives.f k) true := Ev.of (fun k => escritoirelaw22_lives.mono k) (k := 40) (by kernel_rfl)

/-! ### the first that is ready -/
theorem rdOf_lt (l : List Bool) (i : Nat) (h : i < l.length) : rdOf false l (i : Int) = l[i] := by
  unfold rdOf
  simp [h]
def idxS (l : List Bool) (i : Nat) : Int := match (l.drop i).findIdx? id with | some j => ((i + j : Nat) : Int) | none => -1
theorem drop_at (l : List Bool) (i : Nat) (h : i < l.length) : l.drop i = l[i] :: l.drop (i + 1) := List.drop_eq_getElem_cons h
theorem index_ev (l : List Bool) (hl : l.length ≤ 140737488351232) : ∀ (d i : Nat), i + d = l.length → Ev (fun k => slices_Index_bool_bool.l0 k l true (l.length : Int) (i : Int)) (idxS l i) := by
  intro d
  induction d with
  | zero =>
    intro i hi
    have : idxS l i = -1 := by unfold idxS; rw [List.drop_of_length_le (by omega)]; rfl
    rw [this]
    exact Ev.step (fun k => by simp only [slices_Index_bool_bool.l0]; rw [if_neg (by omega)]) (Ev.now _)
  | succ d ih =>
    intro i hi
    have hlt : i < l.length := by omega
    have h0 : ∀ k, slices_Index_bool_bool.l0 (k + 1) l true (l.length : Int) (i : Int) = if l[i] = true then some (i : Int) else slices_Index_bool_bool.l0 k l true (l.length : Int) ((i + 1 : Nat) : Int) := by
      intro k
      simp only [slices_Index_bool_bool.l0]
      rw [if_pos (by omega), if_pos (by omega), if_pos (by omega), rdOf_lt l i hlt, wrap_id (by omega) (by omega)]
      cases l[i] <;> simp
    cases hb : l[i] with
    | true =>
      have : idxS l i = i := by unfold idxS; rw [drop_at l i hlt, List.findIdx?_cons, hb]; simp
      rw [this]
      exact Ev.step (fun k => by rw [h0, hb, if_pos rfl]) (Ev.now _)
    | false =>
      have : idxS l i = idxS l (i + 1) := by
        unfold idxS
        rw [drop_at l i hlt, List.findIdx?_cons, hb]
        simp only [id, Bool.false_eq_true, if_false]
        cases (l.drop (i + 1)).findIdx? id with
        | none => rfl
        | some j => simp; omega
      rw [this]
      exact Ev.step (fun k => by rw [h0, hb, if_neg (by simp)]) (ih (i + 1) (by omega))
def nextS (l : List Bool) (p : Nat) : Int × Bool :=
  match (l.drop p).findIdx? id with
  | some j => (((p + j : Nat) : Int), true)
  | none => match (l.take p).findIdx? id with
    | some j => ((j : Int), true)
    | none => (0, false)
theorem next_l_ev (l : List Bool) (hl : l.length ≤ 140737488351232) (p : Nat) (hp : p ≤ l.length) : ∀ (d i : Nat), i + d = l.length → p ≤ i → ((l.drop p).take (i - p)).findIdx? id = none →
    Ev (fun k => turns_Next.l0 k ((p : Int) - 1) l (i : Int)) (nextS l p) := by
  intro d
  induction d with
  | zero =>
    intro i hi hpi hn
    have hn' : (l.drop p).findIdx? id = none := by rwa [List.take_of_length_le (by rw [List.length_drop]; omega)] at hn
    have hidx := index_ev (l.take p) (by rw [List.length_take]; omega) (l.take p).length 0 (by omega)
    have hidx' : Ev (fun k => slices_Index_bool_bool.f k (l.take p) true) (idxS (l.take p) 0) := hidx
    have h0 : ∀ k, turns_Next.l0 (k + 1) ((p : Int) - 1) l (i : Int) = (slices_Index_bool_bool.f k (l.take p) true).bind fun t107 => (some (mx t107 0, decide (t107 ≥ 0))) := by
      intro k
      simp only [turns_Next.l0]
      rw [if_neg (by omega), wrap_id (by omega) (by omega), if_pos (by omega), if_pos (by omega), show ((p : Int) - 1 + 1).toNat = p by omega]
    refine Ev.step h0 (Ev.bind hidx' ?_)
    have : (mx (idxS (l.take p) 0) 0, decide (idxS (l.take p) 0 ≥ 0)) = nextS l p := by
      unfold nextS
      rw [hn']
      unfold idxS
      rw [List.drop_zero]
      cases (l.take p).findIdx? id with
      | none => simp [mx]
      | some j => simp [mx]; omega
    rw [← this]
    exact Ev.now _
  | succ d ih =>
    intro i hi hpi hn
    have hlt : i < l.length := by omega
    have h0 : ∀ k, turns_Next.l0 (k + 1) ((p : Int) - 1) l (i : Int) = if l[i] = true then some ((i : Int), true) else turns_Next.l0 k ((p : Int) - 1) l ((i + 1 : Nat) : Int) := by
      intro k
      simp only [turns_Next.l0]
      rw [if_pos (by omega), if_pos (by omega), rdOf_lt l i hlt, wrap_id (n := (i : Int) + 1) (by omega) (by omega)]
      rfl
    have hsp : l.drop p = (l.drop p).take (i - p) ++ l.drop i := by
      have := List.take_append_drop (i - p) (l.drop p)
      rw [List.drop_drop, show p + (i - p) = i by omega] at this
      exact this.symm
    have hln : ((l.drop p).take (i - p)).length = i - p := by rw [List.length_take, List.length_drop]; omega
    cases hb : l[i] with
    | true =>
      have : nextS l p = ((i : Int), true) := by
        unfold nextS
        rw [hsp, List.findIdx?_append, hn, drop_at l i hlt, List.findIdx?_cons, hb, hln]
        simp; omega
      rw [this]
      exact Ev.step (fun k => by rw [h0, hb, if_pos rfl]) (Ev.now _)
    | false =>
      refine Ev.step (fun k => by rw [h0, hb, if_neg (by simp)]) (ih (i + 1) (by omega) (by omega) ?_)
      have : (l.drop p).take (i + 1 - p) = (l.drop p).take (i - p) ++ [l[i]] := by
        rw [show i + 1 - p = (i - p) + 1 by omega, List.take_succ_eq_append_getElem (by rw [List.length_drop]; omega)]
        congr 2
        rw [List.getElem_drop]
        congr 1; omega
      rw [this, List.findIdx?_append, hn, hb]
      simp
/-- Where the look begins: behind the last one. -/
def posS (l : List Bool) (a : Int) : Nat := if a < 0 ∨ a ≥ l.length then l.length else a.toNat + 1
theorem posS_le (l : List Bool) (a : Int) : posS l a ≤ l.length := by unfold posS; split <;> omega
theorem next_ev (l : List Bool) (hl : l.length ≤ 140737488351232) (a : Int) : Ev (fun k => turns_Next.f k a l) (nextS l (posS l a)) := by
  have hp := posS_le l a
  have h1 := next_l_ev l hl (posS l a) hp (l.length - posS l a) (posS l a) (by omega) (by omega) (by simp)
  have h2 : Ev (fun k => turns_Next.j1 k ((posS l a : Int) - 1) l) (nextS l (posS l a)) := by
    refine Ev.step (f := fun k => turns_Next.l0 k ((posS l a : Int) - 1) l (posS l a : Int)) (fun k => ?_) h1
    simp only [turns_Next.j1]
    rw [wrap_id (by omega) (by omega), show (posS l a : Int) - 1 + 1 = posS l a by omega]
  by_cases c : a < 0 ∨ a ≥ l.length
  · have hp2 : posS l a = l.length := by unfold posS; rw [if_pos c]
    refine Ev.congr (f := fun k => turns_Next.j0 k a l true) (fun k => ?_) ?_
    · unfold turns_Next.f
      by_cases c0 : a < 0
      · rw [if_pos c0]
      · rw [if_neg c0, decide_eq_true (by omega)]
    · refine Ev.step (fun k => ?_) h2
      simp only [turns_Next.j0, if_true]
      rw [wrap_id (by omega) (by omega), hp2]
  · have hp2 : (posS l a : Int) - 1 = a := by unfold posS; rw [if_neg c]; omega
    refine Ev.congr (f := fun k => turns_Next.j0 k a l false) (fun k => ?_) ?_
    · unfold turns_Next.f
      rw [if_neg (by omega), decide_eq_false (by omega)]
    · refine Ev.step (fun k => ?_) h2
      simp only [turns_Next.j0, Bool.false_eq_true, if_false]
      rw [hp2]

/-! ### the document's answer: round the ring -/
def ringS (l : List Bool) (p : Nat) : List Bool := l.drop p ++ l.take p
theorem ringS_length (l : List Bool) (p : Nat) (hp : p ≤ l.length) : (ringS l p).length = l.length := by unfold ringS; simp; omega
theorem ringS_at (l : List Bool) (p j : Nat) (hp : p ≤ l.length) (hj : j < l.length) : (ringS l p)[j]'(by rw [ringS_length l p hp]; exact hj) = l[(p + j) % l.length]'(Nat.mod_lt _ (by omega)) := by
  unfold ringS
  by_cases c : j < l.length - p
  · rw [List.getElem_append_left (by simpa using c), List.getElem_drop]
    congr 1
    rw [Nat.mod_eq_of_lt (by omega)]
  · rw [List.getElem_append_right (by simpa using c), List.getElem_take]
    congr 1
    rw [List.length_drop, show p + j = l.length + (j - (l.length - p)) by omega, Nat.add_mod_left, Nat.mod_eq_of_lt (by omega)]
def refS (l : List Bool) (p i : Nat) : Int × Bool := match ((ringS l p).drop i).findIdx? id with | some j => ((((p + (i + j)) % l.length : Nat) : Int), true) | none => (0, false)
theorem ref_l_ev (l : List Bool) (hl : l.length ≤ 140737488351232) (p : Nat) (hp : p ≤ l.length) : ∀ (d i : Nat), i + d = l.length →
    Ev (fun k => escritoireref22_Next.l0 k ((p : Int) - 1) l (l.length : Int) ((i : Int) + 1)) (refS l p i) := by
  intro d
  induction d with
  | zero =>
    intro i hi
    have : refS l p i = (0, false) := by unfold refS; rw [List.drop_of_length_le (by rw [ringS_length l p hp]; omega)]; rfl
    rw [this]
    exact Ev.step (fun k => by simp only [escritoireref22_Next.l0]; rw [if_neg (by omega)]) (Ev.now _)
  | succ d ih =>
    intro i hi
    have hlt : i < l.length := by omega
    have hm : (p + i) % l.length < l.length := Nat.mod_lt _ (by omega)
    have hidx : Int.tmod (wrap64 ((p : Int) - 1 + ((i : Int) + 1))) (l.length : Int) = (((p + i) % l.length : Nat) : Int) := by
      rw [wrap_id (by omega) (by omega), show (p : Int) - 1 + ((i : Int) + 1) = ((p + i : Nat) : Int) by omega, Int.tmod_eq_emod_of_nonneg (by omega)]
      rfl
    have h0 : ∀ k, escritoireref22_Next.l0 (k + 1) ((p : Int) - 1) l (l.length : Int) ((i : Int) + 1) = if (ringS l p)[i]'(by rw [ringS_length l p hp]; exact hlt) = true then some ((((p + i) % l.length : Nat) : Int), true) else escritoireref22_Next.l0 k ((p : Int) - 1) l (l.length : Int) (((i + 1 : Nat) : Int) + 1) := by
      intro k
      simp only [escritoireref22_Next.l0]
      rw [hidx, if_pos (by omega), if_neg (by omega), if_pos (by omega), if_pos (by omega), rdOf_lt l _ hm, ringS_at l p i hp hlt, wrap_id (n := (i : Int) + 1 + 1) (by omega) (by omega)]
      rfl
    have hd : (ringS l p).drop i = (ringS l p)[i]'(by rw [ringS_length l p hp]; exact hlt) :: (ringS l p).drop (i + 1) := List.drop_eq_getElem_cons _
    cases hb : (ringS l p)[i]'(by rw [ringS_length l p hp]; exact hlt) with
    | true =>
      have : refS l p i = ((((p + i) % l.length : Nat) : Int), true) := by unfold refS; rw [hd, List.findIdx?_cons, hb]; simp
      rw [this]
      exact Ev.step (fun k => by rw [h0, hb, if_pos rfl]) (Ev.now _)
    | false =>
      have : refS l p i = refS l p (i + 1) := by
        unfold refS
        rw [hd, List.findIdx?_cons, hb]
        simp only [id, Bool.false_eq_true, if_false]
        cases ((ringS l p).drop (i + 1)).findIdx? id with
        | none => rfl
        | some j => simp [Nat.add_assoc, Nat.add_comm 1 j]
      rw [this]
      exact Ev.step (fun k => by rw [h0, hb, if_neg (by simp)]) (ih (i + 1) (by omega))
theorem findIdx?_lt (l : List Bool) (j : Nat) (h : l.findIdx? id = some j) : j < l.length := by
  rw [List.findIdx?_eq_some_iff_getElem] at h
  exact h.1
theorem ref_eq (l : List Bool) (p : Nat) (hp : p ≤ l.length) : refS l p 0 = nextS l p := by
  unfold refS nextS ringS
  rw [List.drop_zero, List.findIdx?_append]
  cases h1 : (l.drop p).findIdx? id with
  | some j =>
    have := findIdx?_lt _ _ h1
    rw [List.length_drop] at this
    simp only [Option.some_or, Nat.zero_add]
    rw [Nat.mod_eq_of_lt (by omega)]
  | none =>
    cases h2 : (l.take p).findIdx? id with
    | none => rfl
    | some j =>
      have := findIdx?_lt _ _ h2
      rw [List.length_take] at this
      simp only [Option.none_or, Option.map_some, List.length_drop, Nat.zero_add]
      rw [show p + (j + (l.length - p)) = l.length + j by omega, Nat.add_mod_left, Nat.mod_eq_of_lt (by omega)]
theorem refnext_ev (l : List Bool) (hl : l.length ≤ 140737488351232) (a : Int) : Ev (fun k => escritoireref22_Next.f k a l) (nextS l (posS l a)) := by
  have hp := posS_le l a
  have h1 := ref_l_ev l hl (posS l a) hp l.length 0 (by omega)
  rw [ref_eq l _ hp] at h1
  have h2 : Ev (fun k => escritoireref22_Next.j1 k ((posS l a : Int) - 1) l (l.length : Int)) (nextS l (posS l a)) := by
    refine Ev.step (fun k => ?_) h1
    simp only [escritoireref22_Next.j1]
    rfl
  by_cases c : a < 0 ∨ a ≥ l.length
  · have hp2 : posS l a = l.length := by unfold posS; rw [if_pos c]
    refine Ev.congr (f := fun k => escritoireref22_Next.j0 k a l (l.length : Int) true) (fun k => ?_) ?_
    · unfold escritoireref22_Next.f
      by_cases c0 : a < 0
      · rw [if_pos c0]
      · rw [if_neg c0, decide_eq_true (by omega)]
    · refine Ev.step (fun k => ?_) h2
      simp only [escritoireref22_Next.j0, if_true]
      rw [wrap_id (by omega) (by omega), hp2]
  · have hp2 : (posS l a : Int) - 1 = a := by unfold posS; rw [if_neg c]; omega
    refine Ev.congr (f := fun k => escritoireref22_Next.j0 k a l (l.length : Int) false) (fun k => ?_) ?_
    · unfold escritoireref22_Next.f
      rw [if_neg (by omega), decide_eq_false (by omega)]
    · refine Ev.step (fun k => ?_) h2
      simp only [escritoireref22_Next.j0, Bool.false_eq_true, if_false]
      rw [hp2]
end Go.Proofs.Ytjigomnmfhbjmaa.Pure
