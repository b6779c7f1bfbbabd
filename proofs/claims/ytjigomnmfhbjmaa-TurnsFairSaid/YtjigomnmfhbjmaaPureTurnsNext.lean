/- TurnsNext in plain Lean: the document's plan is the program's, and whose turn is next. -/
import Derived.Test.YtjigomnmfhbjmaaPurePlan
namespace Go.Proofs.Ytjigomnmfhbjmaa.Pure
open Go.RowKit Go.Proofs.Ytjigomnmfhbjmaa.Print Go.Proofs.YtjigomnmfhbjmaaW.PrintWords Go.Proofs.YtjigomnmfhbjmaaW.PrintLast Go.Proofs.YtjigomnmfhbjmaaW.PrintMore

def ints (c : List Nat) : List Int := c.map (fun (x : Nat) => (x : Int))
theorem ints_length (c : List Nat) : (ints c).length = c.length := List.length_map ..
theorem rd_ints (c : List Nat) (i : Nat) (h : i < c.length) : rd (ints c) (i : Int) = (c[i] : Int) := by
  rw [rd_nat _ i (by rw [ints_length]; exact h)]; simp [ints]
theorem ints_set (c : List Nat) (i n : Nat) : (ints c).set i (n : Int) = ints (c.set i n) := by
  unfold ints; rw [List.map_set]
theorem set_self (c : List Nat) (i : Nat) (h : i < c.length) : c.set i c[i] = c := by simp
theorem ref_l3_ev (lot : Nat) (h2 : lot ≤ 1000) (R : List Int) (round : Int) (i : Nat) : ∀ (d j : Nat) (c : List Nat) (out : List Int) (hi : i < c.length), j + d = lot → c.length ≤ 64 → (∀ x ∈ c, x ≤ 1000) → out.length + d ≤ 1000000000 →
    Ev (fun k => escritoireref22_Plan.l2 k (lot : Int) (ints (c.set i (c[i] - d))) (out ++ List.replicate (min c[i] d) (i : Int)) round ((i + 1 : Nat) : Int)) R →
    Ev (fun k => escritoireref22_Plan.l3 k (lot : Int) (ints c) out round (i : Int) (j : Int)) R := by
  intro d
  induction d with
  | zero =>
    intro j c out hi hj hl hc ho hR
    rw [Nat.sub_zero, set_self c i hi, Nat.min_zero, List.replicate_zero, List.append_nil] at hR
    exact Ev.step (fun k => by simp only [escritoireref22_Plan.l3]; rw [if_neg (by omega), wrap_id (by omega) (by omega)]; rfl) hR
  | succ d ih =>
    intro j c out hi hj hl hc ho hR
    have hci := hc c[i] (List.getElem_mem hi)
    have hlc := ints_length c
    by_cases c0 : c[i] = 0
    · rw [c0, Nat.zero_sub, Nat.zero_min, List.replicate_zero, List.append_nil] at hR
      have hs : c.set i 0 = c := by have := set_self c i hi; rw [c0] at this; exact this
      rw [hs] at hR
      exact Ev.step (fun k => by simp only [escritoireref22_Plan.l3]; rw [if_pos (by omega), if_pos (by omega), if_pos (by omega), rd_ints c i hi, if_neg (by omega), wrap_id (by omega) (by omega)]; rfl) hR
    · have h0 : ∀ k, escritoireref22_Plan.l3 (k + 1) (lot : Int) (ints c) out round (i : Int) (j : Int) = escritoireref22_Plan.l3 k (lot : Int) (ints (c.set i (c[i] - 1))) (out ++ [(i : Int)]) round (i : Int) ((j + 1 : Nat) : Int) := by
        intro k
        simp only [escritoireref22_Plan.l3]
        rw [if_pos (by omega), if_pos (by omega), if_pos (by omega), rd_ints c i hi, if_pos (by omega), if_pos (by omega), wrap_id (n := (c[i] : Int) - 1) (by omega) (by omega), wrap_id (n := (j : Int) + 1) (by omega) (by omega), Int.toNat_natCast,
          show ((c[i] : Int) - 1) = ((c[i] - 1 : Nat) : Int) by omega, ints_set]
        rfl
      refine Ev.step h0 (ih (j + 1) (c.set i (c[i] - 1)) _ (by rw [List.length_set]; exact hi) (by omega) (by rw [List.length_set]; exact hl) ?_ (by rw [List.length_append]; simp only [List.length_cons, List.length_nil]; omega) ?_)
      · intro x hx
        rcases List.mem_or_eq_of_mem_set hx with hx | rfl
        · exact hc x hx
        · omega
      · rw [List.getElem_set_self, List.set_set, List.append_assoc]
        have e1 : c[i] - 1 - d = c[i] - (d + 1) := by omega
        have e2 : [(i : Int)] ++ List.replicate (min (c[i] - 1) d) (i : Int) = List.replicate (min c[i] (d + 1)) (i : Int) := by
          rw [show min c[i] (d + 1) = min (c[i] - 1) d + 1 by omega, List.replicate_succ]
          rfl
        rw [e1, e2]
        exact hR
theorem ref_l2_ev (lot : Nat) (h2 : lot ≤ 1000) (R : List Int) (round : Nat) (hr : round < 1000) : ∀ (d i : Nat) (c : List Nat) (out : List Int), i + d = c.length → c.length ≤ 64 → (∀ x ∈ c, x ≤ 1000) → out.length + d * 1000 ≤ 100000000 →
    Ev (fun k => escritoireref22_Plan.l1 k (lot : Int) (ints (c.take i ++ less lot (c.drop i))) (out ++ lotsFrom lot (c.drop i) i) ((round + 1 : Nat) : Int)) R →
    Ev (fun k => escritoireref22_Plan.l2 k (lot : Int) (ints c) out (round : Int) (i : Int)) R := by
  intro d
  induction d with
  | zero =>
    intro i c out hi hl hc ho hR
    rw [List.drop_of_length_le (by omega), List.take_of_length_le (by omega)] at hR
    simp only [less, List.map_nil, lotsFrom, List.append_nil] at hR
    exact Ev.step (fun k => by simp only [escritoireref22_Plan.l2]; rw [if_neg (by rw [ints_length]; omega), wrap_id (by omega) (by omega)]; rfl) hR
  | succ d ih =>
    intro i c out hi hl hc ho hR
    have hlt : i < c.length := by omega
    have hci := hc c[i] (List.getElem_mem hlt)
    refine Ev.step (fun k => by simp only [escritoireref22_Plan.l2]; rw [if_pos (by rw [ints_length]; omega)]; rfl) (ref_l3_ev lot h2 R (round : Int) i lot 0 c out hlt (by omega) hl hc (by omega) ?_)
    refine ih (i + 1) (c.set i (c[i] - lot)) _ (by rw [List.length_set]; omega) (by rw [List.length_set]; exact hl) ?_ (by rw [List.length_append, List.length_replicate]; omega) ?_
    · intro x hx
      rcases List.mem_or_eq_of_mem_set hx with hx | rfl
      · exact hc x hx
      · omega
    · have e1 : (c.set i (c[i] - lot)).drop (i + 1) = c.drop (i + 1) := List.drop_set_of_lt (by omega)
      have e2 : (c.set i (c[i] - lot)).take (i + 1) = c.take i ++ [c[i] - lot] := by
        rw [List.take_succ_eq_append_getElem (by rw [List.length_set]; exact hlt), List.getElem_set_self, List.take_set_of_le (Nat.le_refl _)]
      have e3 : c.drop i = c[i] :: c.drop (i + 1) := List.drop_eq_getElem_cons hlt
      rw [e1, e2]
      rw [e3] at hR
      simp only [less, List.map_cons, lotsFrom] at hR ⊢
      rw [List.append_assoc, List.append_assoc]
      exact hR
theorem less_le (lot : Nat) (c : List Nat) (n : Nat) (h : ∀ x ∈ c, x ≤ n) : ∀ x ∈ less lot c, x ≤ n := by
  intro x hx
  obtain ⟨y, hy, rfl⟩ := List.mem_map.1 hx
  have := h y hy
  omega
theorem ref_l1_ev (lot : Nat) (h2 : lot ≤ 1000) : ∀ (f round : Nat) (c : List Nat) (out : List Int), round + f = 1000 → c.length ≤ 64 → (∀ x ∈ c, x ≤ 1000) → ∀ b, 64000 * (f + 1) ≤ b → out.length + b ≤ 100000000 →
    Ev (fun k => escritoireref22_Plan.l1 k (lot : Int) (ints c) out (round : Int)) (out ++ planS lot f c) := by
  intro f
  induction f with
  | zero =>
    intro round c out hr hl hc b hb ho
    rw [planS, List.append_nil]
    exact Ev.step (fun k => by simp only [escritoireref22_Plan.l1]; rw [if_neg (by omega)]) (Ev.now _)
  | succ f ih =>
    intro round c out hr hl hc b hb ho
    refine Ev.step (fun k => by simp only [escritoireref22_Plan.l1]; rw [if_pos (by omega)]; rfl) (ref_l2_ev lot h2 _ round (by omega) c.length 0 c out (by omega) hl hc (by omega) ?_)
    rw [List.drop_zero, List.take_zero, List.nil_append, planS, ← List.append_assoc]
    have hlen := lotsFrom_length lot c 0 hc
    exact ih (round + 1) (less lot c) (out ++ lotsFrom lot c 0) (by omega) (by unfold less; rw [List.length_map]; exact hl) (less_le lot c 1000 hc) (b - 64000) (by omega) (by rw [List.length_append]; omega)
theorem ref_l0_ev (lot : Nat) (h2 : lot ≤ 1000) (a : Int) (hlot : mn (mx a 1) 1000 = (lot : Int)) (F : Nat) (hF : F = 1000) : ∀ (d i : Nat) (l : List Int), i + d = l.length → l.length ≤ 64 → l.take i = ints ((l.take i).map clampN) →
    Ev (fun k => escritoireref22_Plan.l0 k a l (i : Int)) (planS lot F (l.map clampN)) := by
  intro d
  induction d with
  | zero =>
    intro i l hi hl ht
    rw [List.take_of_length_le (by omega)] at ht
    have h0 : ∀ k, escritoireref22_Plan.l0 (k + 1) a l (i : Int) = escritoireref22_Plan.l1 k (lot : Int) l ([] : List Int) ((0 : Nat) : Int) := by
      intro k
      simp only [escritoireref22_Plan.l0]
      rw [if_neg (by omega), hlot]
      rfl
    refine Ev.step h0 ?_
    have := ref_l1_ev lot h2 F 0 (l.map clampN) [] (by omega) (by rw [List.length_map]; exact hl) (fun x hx => by obtain ⟨y, _, rfl⟩ := List.mem_map.1 hx; exact clampN_le y) 64064000 (by omega) (by decide)
    rw [List.nil_append, ← ht] at this
    exact this
  | succ d ih =>
    intro i l hi hl ht
    have hlt : i < l.length := by omega
    have h0 : ∀ k, escritoireref22_Plan.l0 (k + 1) a l (i : Int) = escritoireref22_Plan.l0 k a (l.set i (clampN l[i] : Int)) ((i + 1 : Nat) : Int) := by
      intro k
      simp only [escritoireref22_Plan.l0]
      rw [if_pos (by omega), if_pos (by omega), rd_nat l i hlt, clampN_cast, wrap_id (by omega) (by omega), Int.toNat_natCast]
      rfl
    have hcc : clampN ((clampN l[i] : Nat) : Int) = clampN l[i] := by
      have := clampN_le l[i]
      generalize clampN l[i] = m at *
      unfold clampN mn mx; split <;> split <;> omega
    have h1 : (l.set i (clampN l[i] : Int)).map clampN = l.map clampN := by
      rw [List.map_set, hcc]
      apply List.ext_getElem
      · simp
      · intro j hj1 hj2
        rw [List.getElem_set]
        split
        · subst_vars; simp
        · rfl
    rw [← h1]
    refine Ev.step h0 (ih (i + 1) _ (by rw [List.length_set]; omega) (by rw [List.length_set]; exact hl) ?_)
    rw [List.take_succ_eq_append_getElem (by rw [List.length_set]; exact hlt), List.getElem_set_self, List.take_set_of_le (Nat.le_refl _)]
    conv => lhs; rw [ht]
    simp [ints, hcc]
theorem refplan_ev (F : Nat) (hF : F = 1000) (need : List Int) (a : Int) (lot : Nat) (hlot : mn (mx a 1) 1000 = (lot : Int)) (h2 : lot ≤ 1000) (hn : need.length ≤ 64) :
    Ev (fun k => escritoireref22_Plan.f k need a) (planS lot F (need.map clampN)) := by
  have hmn : mn (need.length : Int) 64 = (need.length : Int) := by unfold mn; split <;> omega
  have h0 : ∀ k, escritoireref22_Plan.f k need a = escritoireref22_Plan.l0 k a need ((0 : Nat) : Int) := by
    intro k
    unfold escritoireref22_Plan.f
    rw [hmn, if_pos (by omega), if_pos (by omega), Int.toNat_natCast, List.take_of_length_le (Nat.le_refl _)]
    simp only [Option.bind_some]
    rw [if_pos (by simp only [List.length_nil]; omega), List.nil_append]
    rfl
  exact Ev.congr h0 (ref_l0_ev lot h2 a hlot F hF need.length 0 need (by omega) hn (by simp [ints]))
theorem same_ev (l : List Int) (hl : l.length ≤ 140737488351232) : Ev (fun k => escritoireref01_SameInts.f k l l) true := by
  have key : ∀ (d i : Nat), i + d = l.length → Ev (fun k => escritoireref01_SameInts.l0 k l l (i : Int)) true := by
    intro d
    induction d with
    | zero => intro i hi; exact Ev.step (fun k => by simp only [escritoireref01_SameInts.l0]; rw [if_neg (by omega)]) (Ev.now _)
    | succ d ih =>
      intro i hi
      refine Ev.step (fun k => ?_) (ih (i + 1) (by omega))
      simp only [escritoireref01_SameInts.l0]
      rw [if_pos (by omega), if_pos (by omega), if_pos (by omega), if_pos trivial, wrap_id (by omega) (by omega)]
      rfl
  exact Ev.congr (fun k => by unfold escritoireref01_SameInts.f; rw [if_pos rfl]; rfl) (key l.length 0 (by omega))
theorem planS_length (lot : Nat) : ∀ (f : Nat) (c : List Nat), (∀ x ∈ c, x ≤ 1000) → (planS lot f c).length ≤ f * (c.length * 1000) := by
  intro f
  induction f with
  | zero => intro c _; simp [planS]
  | succ f ih =>
    intro c h
    have h1 := lotsFrom_length lot c 0 h
    have h2 := ih (less lot c) (less_le lot c 1000 h)
    rw [planS, List.length_append, Nat.succ_mul]
    have : (less lot c).length = c.length := by unfold less; simp
    rw [this] at h2
    omega
theorem wf64 {x : Int} (h : (Lit.int .i64 x).wf = true) : -9223372036854775808 ≤ x ∧ x < 9223372036854775808 := by
  have h1 : IntKind.i64.min ≤ x ∧ x ≤ 9223372036854775807 := by simpa [Lit.wf] using h
  have h2 : IntKind.i64.min = -9223372036854775808 := by decide
  omega
theorem early_ev (l : List Int) : escritoirelaw22_early.f l = some (l.take 12) := by
  unfold escritoirelaw22_early.f
  have : mn (l.length : Int) 12 = ((min l.length 12 : Nat) : Int) := by unfold mn; split <;> omega
  rw [this, if_pos (by omega), if_pos (by omega), Int.toNat_natCast, show min l.length 12 = min 12 l.length from Nat.min_comm _ _, ← List.take_eq_take_min]
theorem TurnsNext : escritoirelaw22_TurnsNext.Pure := by
  intro a0 l1 l2 ha hl1 hl2
  have hn := next_ev l1 (by omega) a0
  have hr := refnext_ev l1 (by omega) a0
  have hlen : (l2.take 12).length ≤ 64 := by rw [List.length_take]; omega
  have hw : ∀ x ∈ l2.take 12, -9223372036854775808 ≤ x := fun x hx => (wf64 (hl2.2.2 x (List.mem_of_mem_take hx))).1
  obtain ⟨lot, hlot, h1, h2⟩ : ∃ lot : Nat, mn (mx (wrap64 (wrap64 (Int.tmod (IntKind.u64.wrap a0) 9) - 1)) 1) 1000 = (lot : Int) ∧ 1 ≤ lot ∧ lot ≤ 1000 := by
    refine ⟨(mn (mx (wrap64 (wrap64 (Int.tmod (IntKind.u64.wrap a0) 9) - 1)) 1) 1000).toNat, ?_⟩
    have : 1 ≤ mn (mx (wrap64 (wrap64 (Int.tmod (IntKind.u64.wrap a0) 9) - 1)) 1) 1000 ∧ mn (mx (wrap64 (wrap64 (Int.tmod (IntKind.u64.wrap a0) 9) - 1)) 1) 1000 ≤ 1000 := by
      unfold mn mx; constructor <;> (split <;> split <;> omega)
    omega
  have hp := plan_ev (l2.take 12) _ lot hlot h1 h2 hlen hw
  have hq := refplan_ev 1000 rfl (l2.take 12) _ lot hlot h2 hlen
  have hb := planS_length lot 1000 ((l2.take 12).map clampN) (fun x hx => by obtain ⟨y, _, rfl⟩ := List.mem_map.1 hx; exact clampN_le y)
  rw [List.length_map] at hb
  generalize planS lot 1000 ((l2.take 12).map clampN) = P at *
  have hs := same_ev P (by omega)
  have hh : Ev (fun k => escritoirelaw22_TurnsNext.f k a0 l1 l2) true := by
    unfold escritoirelaw22_TurnsNext.f
    refine Ev.bind lives_ev ?_
    simp only [if_true]
    refine Ev.bind hn (Ev.bind hr ?_)
    rw [early_ev]
    simp only [Option.bind_some, if_true, beq_self_eq_true]
    exact Ev.bind hp (Ev.bind hq (Ev.bind hs (Ev.now _)))
  obtain ⟨K, hK⟩ := hh
  exact ⟨K, hK K (Nat.le_refl _)⟩
end Go.Proofs.Ytjigomnmfhbjmaa.Pure
