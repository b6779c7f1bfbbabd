/- What turns.Plan computes, in plain Lean: rounds of lots. -/
import Derived.Test.YtjigomnmfhbjmaaPureBase
namespace Go.Proofs.Ytjigomnmfhbjmaa.Pure
open Go.RowKit Go.Proofs.Ytjigomnmfhbjmaa.Print Go.Proofs.YtjigomnmfhbjmaaW.PrintWords Go.Proofs.YtjigomnmfhbjmaaW.PrintLast Go.Proofs.YtjigomnmfhbjmaaW.PrintMore

def clampN (x : Int) : Nat := (mn (mx x 0) 1000).toNat
theorem clampN_le (x : Int) : clampN x ≤ 1000 := by unfold clampN mn mx; split <;> split <;> omega
theorem clampN_cast (x : Int) : mn (mx x 0) 1000 = (clampN x : Int) := by unfold clampN mn mx; split <;> split <;> omega
def upd (lot : Nat) (x : Int) : Int := mn x 1000 - ((min (clampN x) lot : Nat) : Int)
theorem clampN_upd (lot : Nat) (x : Int) : clampN (upd lot x) = clampN x - lot := by
  unfold upd clampN mn mx; split <;> split <;> split <;> split <;> omega
def lotsFrom (lot : Nat) : List Nat → Nat → List Int
  | [], _ => []
  | c :: r, k => List.replicate (min c lot) (k : Int) ++ lotsFrom lot r (k + 1)
def less (lot : Nat) (c : List Nat) : List Nat := c.map (· - lot)
def planS (lot : Nat) : Nat → List Nat → List Int
  | 0, _ => []
  | f + 1, c => lotsFrom lot c 0 ++ planS lot f (less lot c)
theorem lotsFrom_length (lot : Nat) : ∀ (c : List Nat) (k : Nat), (∀ x ∈ c, x ≤ 1000) → (lotsFrom lot c k).length ≤ c.length * 1000 := by
  intro c
  induction c with
  | nil => intro k _; simp [lotsFrom]
  | cons a r ih =>
    intro k h
    have h1 := ih (k + 1) (fun x hx => h x (List.mem_cons_of_mem _ hx))
    have h2 := h a (List.mem_cons_self ..)
    simp only [lotsFrom, List.length_append, List.length_replicate, List.length_cons]
    omega
theorem lotsFrom_zero (lot : Nat) : ∀ (c : List Nat) (k : Nat), (∀ x ∈ c, x = 0) → lotsFrom lot c k = [] := by
  intro c
  induction c with
  | nil => intro k _; rfl
  | cons a r ih =>
    intro k h
    have h2 := h a (List.mem_cons_self ..)
    simp [lotsFrom, h2, ih (k + 1) (fun x hx => h x (List.mem_cons_of_mem _ hx))]
theorem planS_zero (lot : Nat) : ∀ (f : Nat) (c : List Nat), (∀ x ∈ c, x = 0) → planS lot f c = [] := by
  intro f
  induction f with
  | zero => intro c _; rfl
  | succ f ih =>
    intro c h
    rw [planS, lotsFrom_zero lot c 0 h, ih (less lot c) (by intro x hx; obtain ⟨y, hy, rfl⟩ := List.mem_map.1 hx; have := h y hy; omega)]
    rfl

theorem rd_nat (l : List Int) (i : Nat) (h : i < l.length) : rd l (i : Int) = l[i] := by unfold rd; simp [h]

theorem upd_ge (lot : Nat) (x : Int) (h : -9223372036854775808 ≤ x) : -9223372036854775808 ≤ upd lot x := by
  have hc := clampN_le x
  have hm : ((min (clampN x) lot : Nat) : Int) ≤ (clampN x : Int) := by omega
  have hx := clampN_cast x
  by_cases h0 : x < 0
  · have : clampN x = 0 := by have h1 : mx x 0 = 0 := by (unfold mx; split <;> omega)
                              rw [h1] at hx; have : mn 0 1000 = 0 := rfl; omega
    rw [this] at hm
    have : mn x 1000 = x := by unfold mn; split <;> omega
    unfold upd; rw [this, ‹clampN x = 0›]; omega
  · have : 0 ≤ mn x 1000 := by unfold mn; split <;> omega
    unfold upd; omega
/-- One round of lots, from client i on. -/
theorem plan_l1_ev (lot : Nat) (h2 : lot ≤ 1000) (R : List Int) : ∀ (d i : Nat) (x5 out : List Int) (flag : Bool), i + d = x5.length → x5.length ≤ 64 → (∀ x ∈ x5, -9223372036854775808 ≤ x) → out.length + d * 1000 ≤ 1000000000 →
    (if flag = true ∨ (∃ x ∈ (x5.drop i).map clampN, min x lot ≠ 0) then Ev (fun k => turns_Plan.l0 k (lot : Int) (x5.take i ++ (x5.drop i).map (upd lot)) (out ++ lotsFrom lot ((x5.drop i).map clampN) i)) R else R = out) →
    Ev (fun k => turns_Plan.l1 k (lot : Int) x5 out flag (x5.length : Int) (i : Int)) R := by
  intro d
  induction d with
  | zero =>
    intro i x5 out flag hi hl hw ho hR
    have hd : x5.drop i = [] := List.drop_of_length_le (by omega)
    have ht : x5.take i = x5 := List.take_of_length_le (by omega)
    rw [hd, ht] at hR
    simp only [List.map_nil, lotsFrom, List.append_nil, List.not_mem_nil, false_and, exists_false, or_false] at hR
    cases flag with
    | true =>
      rw [if_pos rfl] at hR
      exact Ev.step (fun k => by simp only [turns_Plan.l1]; rw [if_neg (by omega)]; simp only [if_true]) hR
    | false =>
      rw [if_neg (by simp)] at hR
      subst hR
      exact Ev.step (fun k => by simp only [turns_Plan.l1]; rw [if_neg (by omega)]; simp only [Bool.false_eq_true, if_false]) (Ev.now _)
  | succ d ih =>
    intro i x5 out flag hi hl hw ho hR
    have hlt : i < x5.length := by omega
    have hc := clampN_le x5[i]
    have hwi := hw x5[i] (List.getElem_mem hlt)
    have hn : mn (mn (mx (rd x5 (i : Int)) 0) 1000) (lot : Int) = ((min (clampN x5[i]) lot : Nat) : Int) := by
      rw [rd_nat x5 i hlt, clampN_cast]; unfold mn; split <;> omega
    have hrep : slices_Repeat_int_int.f [(i : Int)] ((min (clampN x5[i]) lot : Nat) : Int) = some (List.replicate (min (clampN x5[i]) lot) (i : Int)) := by
      unfold slices_Repeat_int_int.f
      rw [if_pos ⟨rfl, by omega, by omega⟩, Int.toNat_natCast]
      rfl
    have hupd : wrap64 (mn (rd x5 (i : Int)) 1000 - ((min (clampN x5[i]) lot : Nat) : Int)) = upd lot x5[i] := by
      rw [rd_nat x5 i hlt]
      have h3 := upd_ge lot x5[i] hwi
      have h4 : upd lot x5[i] ≤ 1000 := by unfold upd mn; split <;> omega
      exact wrap_id h3 (by unfold upd at h4; omega)
    have h0 : ∀ k, turns_Plan.l1 (k + 1) (lot : Int) x5 out flag (x5.length : Int) (i : Int) =
        turns_Plan.l1 k (lot : Int) (x5.set i (upd lot x5[i])) (out ++ List.replicate (min (clampN x5[i]) lot) (i : Int)) (flag || decide (((min (clampN x5[i]) lot : Nat) : Int) > 0)) ((x5.set i (upd lot x5[i])).length : Int) ((i + 1 : Nat) : Int) := by
      intro k
      simp only [turns_Plan.l1]
      rw [if_pos (by omega), if_pos (by omega), if_pos (by omega), hn, hupd, hrep]
      simp only [Option.bind_some]
      rw [if_pos (by rw [List.length_replicate]; omega), wrap_id (n := (i : Int) + 1) (by omega) (by omega), Int.toNat_natCast, List.length_set]
      cases flag
      · simp only [Bool.false_eq_true, if_false, Bool.false_or]; rfl
      · simp only [if_true, Bool.true_or]; rfl
    refine Ev.step h0 (ih (i + 1) _ _ _ (by rw [List.length_set]; omega) (by rw [List.length_set]; exact hl) ?_ (by rw [List.length_append, List.length_replicate]; omega) ?_)
    · intro x hx
      rcases List.mem_or_eq_of_mem_set hx with hx | rfl
      · exact hw x hx
      · exact upd_ge lot _ hwi
    · have e1 : (x5.set i (upd lot x5[i])).drop (i + 1) = x5.drop (i + 1) := List.drop_set_of_lt (by omega)
      have e2 : (x5.set i (upd lot x5[i])).take (i + 1) = x5.take i ++ [upd lot x5[i]] := by
        rw [List.take_succ_eq_append_getElem (by rw [List.length_set]; exact hlt), List.getElem_set_self, List.take_set_of_le (Nat.le_refl _)]
      have e3 : x5.drop i = x5[i] :: x5.drop (i + 1) := List.drop_eq_getElem_cons hlt
      rw [e1, e2]
      rw [e3] at hR
      simp only [List.map_cons, lotsFrom, List.mem_cons, exists_eq_or_imp] at hR
      rw [List.append_assoc, List.append_assoc]
      by_cases hf : flag = true ∨ min (clampN x5[i]) lot ≠ 0 ∨ ∃ a, a ∈ List.map clampN (List.drop (i + 1) x5) ∧ min a lot ≠ 0
      · rw [if_pos hf] at hR
        rw [if_pos]
        · exact hR
        · rcases hf with hf | hf | hf
          · left; simp [hf]
          · left
            have : decide (((min (clampN x5[i]) lot : Nat) : Int) > 0) = true := decide_eq_true (by omega)
            rw [this]; simp
          · exact .inr hf
      · rw [if_neg hf] at hR
        have hf1 : flag = false := by cases flag <;> simp_all
        have hf2 : min (clampN x5[i]) lot = 0 := by
          by_cases h : min (clampN x5[i]) lot = 0
          · exact h
          · exact absurd (.inr (.inl h)) hf
        rw [if_neg]
        · rw [hR, hf2]; simp
        · rintro (h | h)
          · rw [hf1, hf2] at h; simp at h
          · exact hf (.inr (.inr h))
theorem map_clamp_upd (lot : Nat) (l : List Int) : (l.map (upd lot)).map clampN = less lot (l.map clampN) := by
  unfold less
  rw [List.map_map, List.map_map]
  apply List.map_congr_left
  intro x _
  exact clampN_upd lot x
theorem plan_l0_ev (lot : Nat) (h1 : 1 ≤ lot) (h2 : lot ≤ 1000) : ∀ (f : Nat) (x5 out : List Int), (∀ x ∈ x5.map clampN, x ≤ f) → x5.length ≤ 64 → (∀ x ∈ x5, -9223372036854775808 ≤ x) → ∀ b, 64000 * (f + 1) ≤ b → out.length + b ≤ 100000000 →
    Ev (fun k => turns_Plan.l0 k (lot : Int) x5 out) (out ++ planS lot f (x5.map clampN)) := by
  intro f
  induction f with
  | zero =>
    intro x5 out hm hl hw b hb ho
    have hz : ∀ x ∈ x5.map clampN, x = 0 := fun x hx => by have := hm x hx; omega
    refine Ev.step (fun k => by simp only [turns_Plan.l0]; rfl) (plan_l1_ev lot h2 _ x5.length 0 x5 out false (by omega) hl hw (by omega) ?_)
    rw [if_neg]
    · simp [planS]
    · rintro (h | ⟨x, hx, h⟩)
      · simp at h
      · have := hz x (by simpa using hx); omega
  | succ f ih =>
    intro x5 out hm hl hw b hb ho
    refine Ev.step (fun k => by simp only [turns_Plan.l0]; rfl) (plan_l1_ev lot h2 _ x5.length 0 x5 out false (by omega) hl hw (by omega) ?_)
    rw [List.drop_zero, List.take_zero, List.nil_append]
    by_cases hz : ∃ x ∈ x5.map clampN, min x lot ≠ 0
    · rw [if_pos (.inr hz)]
      have hlen := lotsFrom_length lot (x5.map clampN) 0 (fun x hx => by obtain ⟨y, _, rfl⟩ := List.mem_map.1 hx; exact clampN_le y)
      rw [List.length_map] at hlen
      have := ih (x5.map (upd lot)) (out ++ lotsFrom lot (x5.map clampN) 0) (by
          rw [map_clamp_upd]
          intro x hx
          obtain ⟨y, hy, rfl⟩ := List.mem_map.1 hx
          have := hm y hy
          omega) (by rw [List.length_map]; exact hl) (by
          intro x hx
          obtain ⟨y, hy, rfl⟩ := List.mem_map.1 hx
          exact upd_ge lot y (hw y hy)) (b - 64000) (by omega) (by rw [List.length_append]; omega)
      rw [map_clamp_upd, List.append_assoc] at this
      exact this
    · rw [if_neg (by rintro (h | h); · simp at h
                     · exact hz h)]
      rw [planS_zero lot (f + 1) _ (fun x hx => by
        by_cases h : x = 0
        · exact h
        · exact absurd ⟨x, hx, by omega⟩ hz), List.append_nil]
/-- turns.Plan: rounds of lots of what is needed. -/
theorem plan_evF (F : Nat) (hF : F = 1000) (need : List Int) (a : Int) (lot : Nat) (hlot : mn (mx a 1) 1000 = (lot : Int)) (h1 : 1 ≤ lot) (h2 : lot ≤ 1000) (hn : need.length ≤ 64) (hw : ∀ x ∈ need, -9223372036854775808 ≤ x) :
    Ev (fun k => turns_Plan.f k need a) (planS lot F (need.map clampN)) := by
  have hmn : mn (need.length : Int) 64 = (need.length : Int) := by unfold mn; split <;> omega
  have h0 : ∀ k, turns_Plan.f k need a = turns_Plan.l0 k (lot : Int) need [] := by
    intro k
    unfold turns_Plan.f
    rw [hmn, hlot, if_pos (by omega), if_pos (by omega), Int.toNat_natCast, List.take_of_length_le (Nat.le_refl _)]
    unfold slices_Clone_int_int.f
    rw [if_pos (by omega)]
    rfl
  refine Ev.congr h0 ?_
  have := plan_l0_ev lot h1 h2 F need [] (fun x hx => by obtain ⟨y, _, rfl⟩ := List.mem_map.1 hx; have := clampN_le y; omega) hn hw 64064000 (by omega) (by decide)
  rw [List.nil_append] at this
  exact this
theorem plan_ev (need : List Int) (a : Int) (lot : Nat) (hlot : mn (mx a 1) 1000 = (lot : Int)) (h1 : 1 ≤ lot) (h2 : lot ≤ 1000) (hn : need.length ≤ 64) (hw : ∀ x ∈ need, -9223372036854775808 ≤ x) :
    Ev (fun k => turns_Plan.f k need a) (planS lot 1000 (need.map clampN)) := plan_evF _ rfl need a lot hlot h1 h2 hn hw
end Go.Proofs.Ytjigomnmfhbjmaa.Pure
