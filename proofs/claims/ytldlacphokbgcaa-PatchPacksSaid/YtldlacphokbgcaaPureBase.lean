/- Patches in plain Lean: which are right, rows, packing and unpacking. -/
import Derived.Test.YtldlacphokbgcaaPrintK
namespace Go.Proofs.Ytldlacphokbgcaa.Pure
open Go.RowKit Go.Proofs.Ytldlacphokbgcaa.Print Go.Proofs.YtldlacphokbgcaaW.PrintWords Go.Proofs.YtldlacphokbgcaaW.PrintLast Go.Proofs.YtldlacphokbgcaaW.PrintMore

theorem wrap_id {n : Int} (h0 : -9223372036854775808 ≤ n) (h1 : n < 9223372036854775808) : wrap64 n = n := by unfold wrap64; omega
theorem wrapu (n : Int) : IntKind.u64.wrap n = n % 18446744073709551616 := by simp [IntKind.wrap, IntKind.bits, IntKind.signed]
theorem wrapu_id {n : Int} (h0 : 0 ≤ n) (h1 : n < 18446744073709551616) : IntKind.u64.wrap n = n := by rw [wrapu]; omega
theorem wf64 {x : Int} (h : (Lit.int .i64 x).wf = true) : -9223372036854775808 ≤ x ∧ x < 9223372036854775808 := by
  have h1 : IntKind.i64.min ≤ x ∧ x ≤ 9223372036854775807 := by simpa [Lit.wf] using h
  have h2 : IntKind.i64.min = -9223372036854775808 := by decide
  omega
theorem wfu64 {x : Int} (h : (Lit.int .u64 x).wf = true) : 0 ≤ x ∧ x < 18446744073709551616 := by
  have h1 : IntKind.u64.min ≤ x ∧ x ≤ IntKind.u64.max := by simpa [Lit.wf] using h
  have h2 : IntKind.u64.min = 0 := by decide
  have h3 : IntKind.u64.max = 18446744073709551615 := by decide
  omega
theorem rd_nat (l : List Int) (i : Nat) (h : i < l.length) : rd l (i : Int) = l[i] := by unfold rd; simp [h]
theorem rdT (l : List S31) (i : Nat) (h : i < l.length) : rd_T31 l (i : Int) = l[i] := by unfold rd_T31; simp [h]
theorem drop_cons {α : Type} (l : List α) (i : Nat) (h : i < l.length) : l.drop i = l[i] :: l.drop (i + 1) := List.drop_eq_getElem_cons h
theorem lives_ev : Ev (fun k => escritoirelaw23_lives.f k) true := Ev.of (fun k => escritoirelaw23_lives.mono k) (k := 40) (by kernel_rfl)

/-! ### lists alike -/
theorem Same_ev (l m : List Int) (h : l.length ≤ 140737488351232) : Ev (fun k => escritoireref01_Same.f k l m) (decide (l = m)) := by
  by_cases hl : l.length = m.length
  · have key : ∀ (d i : Nat), i + d = l.length → Ev (fun k => escritoireref01_Same.l0 k l m (i : Int)) (decide (l.drop i = m.drop i)) := by
      intro d
      induction d with
      | zero =>
        intro i hi
        rw [List.drop_of_length_le (by omega), List.drop_of_length_le (by omega), decide_eq_true rfl]
        exact Ev.step (fun k => by simp only [escritoireref01_Same.l0]; rw [if_neg (by omega)]) (Ev.now _)
      | succ d ih =>
        intro i hi
        by_cases e : l[i]'(by omega) = m[i]'(by omega)
        · have := ih (i + 1) (by omega)
          have e2 : decide (l.drop i = m.drop i) = decide (l.drop (i + 1) = m.drop (i + 1)) := by
            exact decide_eq_decide.2 (by rw [drop_cons l i (by omega), drop_cons m i (by omega), e]; exact ⟨fun h => (List.cons.inj h).2, fun h => by rw [h]⟩)
          rw [e2]
          refine Ev.step (fun k => ?_) this
          simp only [escritoireref01_Same.l0]
          rw [if_pos (by omega), if_pos (by omega), if_pos (by omega), rd_nat l i (by omega), rd_nat m i (by omega), if_pos e, wrap_id (by omega) (by omega)]
          rfl
        · have e2 : decide (l.drop i = m.drop i) = false := by
            exact decide_eq_false (by rw [drop_cons l i (by omega), drop_cons m i (by omega)]; exact fun h => e (List.cons.inj h).1)
          rw [e2]
          refine Ev.step (f := fun _ => some false) (fun k => ?_) (Ev.now _)
          simp only [escritoireref01_Same.l0]
          rw [if_pos (by omega), if_pos (by omega), if_pos (by omega), rd_nat l i (by omega), rd_nat m i (by omega), if_neg e]
    exact Ev.congr (fun k => by unfold escritoireref01_Same.f; rw [if_pos (by omega)]; rfl) (key l.length 0 (by omega))
  · have : decide (l = m) = false := decide_eq_false (fun e => hl (by rw [e]))
    rw [this]
    exact Ev.congr (f := fun _ => some false) (fun k => by unfold escritoireref01_Same.f; rw [if_neg (by omega)]) (Ev.now _)
theorem SameT_ev (l : List S31) (h : l.length ≤ 140737488351232) : Ev (fun k => escritoireref23_Same.f k l l) true := by
  have key : ∀ (d i : Nat), i + d = l.length → Ev (fun k => escritoireref23_Same.l0 k l l (i : Int)) true := by
    intro d
    induction d with
    | zero => intro i hi; exact Ev.step (fun k => by simp only [escritoireref23_Same.l0]; rw [if_neg (by omega)]) (Ev.now _)
    | succ d ih =>
      intro i hi
      refine Ev.step (fun k => ?_) (ih (i + 1) (by omega))
      simp only [escritoireref23_Same.l0]
      rw [if_pos (by omega), if_pos (by omega), if_pos (by omega), if_neg (by simp), wrap_id (by omega) (by omega)]
      rfl
  exact Ev.congr (fun k => by unfold escritoireref23_Same.f; rw [if_pos rfl]; rfl) (key l.length 0 (by omega))

/-! ### right -/
def rightF : Int → List S31 → Bool
  | _, [] => true
  | last, c :: p => if c.f0 ≤ last then false else rightF c.f0 p
theorem Right_ev (p : List S31) (hl : p.length ≤ 140737488351232) : Ev (fun k => patch_Right.f k p) (rightF (-1) p) := by
  have key : ∀ (d i : Nat) (last : Int), i + d = p.length → Ev (fun k => patch_Right.l0 k last p (p.length : Int) (i : Int)) (rightF last (p.drop i)) := by
    intro d
    induction d with
    | zero =>
      intro i last hi
      rw [List.drop_of_length_le (by omega)]
      exact Ev.step (f := fun _ => some true) (fun k => by simp only [patch_Right.l0]; rw [if_neg (by omega)]) (Ev.now _)
    | succ d ih =>
      intro i last hi
      rw [drop_cons p i (by omega)]
      by_cases e : (p[i]'(by omega)).f0 ≤ last
      · have e2 : rightF last (p[i]'(by omega) :: p.drop (i + 1)) = false := by unfold rightF; rw [if_pos e]
        rw [e2]
        refine Ev.step (f := fun _ => some false) (fun k => ?_) (Ev.now _)
        simp only [patch_Right.l0]
        rw [if_pos (by omega), if_pos (by omega), if_pos (by omega), rdT p i (by omega), if_pos e]
      · have e2 : rightF last (p[i]'(by omega) :: p.drop (i + 1)) = rightF (p[i]'(by omega)).f0 (p.drop (i + 1)) := by rw [rightF, if_neg e]
        rw [e2]
        refine Ev.step (fun k => ?_) (ih (i + 1) _ (by omega))
        simp only [patch_Right.l0]
        rw [if_pos (by omega), if_pos (by omega), if_pos (by omega), rdT p i (by omega), if_neg e, wrap_id (by omega) (by omega)]
        rfl
  exact key p.length 0 (-1) (by omega)
structure Good (p : List S31) : Prop where
  lo : ∀ c ∈ p, 0 ≤ c.f0
  hi : ∀ c ∈ p, c.f0 < 9223372036854775808
  vlo : ∀ c ∈ p, 0 ≤ c.f1
  vhi : ∀ c ∈ p, c.f1 < 18446744073709551616
  up : p.Pairwise (fun a b => a.f0 < b.f0)
theorem rightF_up : ∀ (p : List S31) (last : Int), rightF last p = true → (∀ c ∈ p, last < c.f0) ∧ p.Pairwise (fun a b => a.f0 < b.f0)
  | [], _, _ => ⟨fun c h => (by cases h), List.Pairwise.nil⟩
  | c :: p, last, h => by
    unfold rightF at h
    by_cases e : c.f0 ≤ last
    · rw [if_pos e] at h; cases h
    · rw [if_neg e] at h
      obtain ⟨h1, h2⟩ := rightF_up p c.f0 h
      refine ⟨fun d hd => ?_, List.Pairwise.cons h1 h2⟩
      rcases List.mem_cons.1 hd with rfl | hd
      · omega
      · have := h1 d hd; omega
theorem rightF_of : ∀ (p : List S31) (last : Int), (∀ c ∈ p, last < c.f0) → p.Pairwise (fun a b => a.f0 < b.f0) → rightF last p = true
  | [], _, _, _ => rfl
  | c :: p, last, h, hp => by
    unfold rightF
    have := h c (List.mem_cons_self ..)
    rw [if_neg (by omega)]
    cases hp with
    | cons h1 h2 => exact rightF_of p c.f0 h1 h2
theorem Good.of {p : List S31} (h : rightF (-1) p = true) (hw : ∀ c ∈ p, c.f0 < 9223372036854775808 ∧ 0 ≤ c.f1 ∧ c.f1 < 18446744073709551616) : Good p := by
  obtain ⟨h1, h2⟩ := rightF_up p _ h
  exact ⟨fun c hc => by have := h1 c hc; omega, fun c hc => (hw c hc).1, fun c hc => (hw c hc).2.1, fun c hc => (hw c hc).2.2, h2⟩
theorem Good.right {p : List S31} (h : Good p) : rightF (-1) p = true := rightF_of p _ (fun c hc => by have := h.lo c hc; omega) h.up
theorem Good.drop {p : List S31} (h : Good p) (n : Nat) : Good (p.drop n) :=
  ⟨fun c hc => h.lo c (List.mem_of_mem_drop hc), fun c hc => h.hi c (List.mem_of_mem_drop hc), fun c hc => h.vlo c (List.mem_of_mem_drop hc), fun c hc => h.vhi c (List.mem_of_mem_drop hc), h.up.sublist (List.drop_sublist n p)⟩

/-! ### rows -/
def rowN : List S31 → Nat
  | [] => 1
  | [_] => 1
  | c :: d :: r => if d.f0 = c.f0 + 1 then 1 + rowN (d :: r) else 1
theorem rowN_pos (p : List S31) : 1 ≤ rowN p := by
  cases p with
  | nil => exact Nat.le_refl _
  | cons c p =>
    cases p with
    | nil => exact Nat.le_refl _
    | cons d r => unfold rowN; split <;> omega
theorem rowN_le : ∀ (p : List S31), p ≠ [] → rowN p ≤ p.length
  | [], h => absurd rfl h
  | [_], _ => Nat.le_refl _
  | c :: d :: r, _ => by
    unfold rowN
    have := rowN_le (d :: r) (by simp)
    simp only [List.length_cons] at this ⊢
    split <;> omega
theorem row_ev (p : List S31) (hp : p ≠ []) (hg : Good p) (hl : p.length ≤ 1000000) : Ev (fun k => patch_row.f k p) ((rowN p : Nat) : Int) := by
  have hpos : 0 < p.length := List.length_pos_iff.2 hp
  have key : ∀ (d i : Nat), 1 ≤ i → i + d = p.length → Ev (fun k => patch_row.l0 k p (i : Int)) (((i - 1 + rowN (p.drop (i - 1)) : Nat)) : Int) := by
    intro d
    induction d with
    | zero =>
      intro i h1 hi
      have e : p.drop (i - 1) = [p[i - 1]'(by omega)] := by rw [drop_cons p (i - 1) (by omega), List.drop_of_length_le (by omega)]
      rw [e]
      refine Ev.step (f := fun _ => some ((i : Nat) : Int)) (fun k => ?_) (Ev.congr (f := fun _ => some ((i : Nat) : Int)) (fun _ => rfl) ?_)
      · simp only [patch_row.l0]; rw [if_neg (by omega)]
      · have : i - 1 + rowN [p[i - 1]'(by omega)] = i := by simp only [rowN]; omega
        rw [this]
        exact Ev.now _
    | succ d ih =>
      intro i h1 hi
      have e : p.drop (i - 1) = p[i - 1]'(by omega) :: p[i]'(by omega) :: p.drop (i + 1) := by
        rw [drop_cons p (i - 1) (by omega)]
        congr 1
        rw [show i - 1 + 1 = i by omega]
        exact drop_cons p i (by omega)
      have hb : (p[i - 1]'(by omega)).f0 < (p[i]'(by omega)).f0 := List.pairwise_iff_getElem.1 hg.up (i - 1) i (by omega) (by omega) (by omega)
      have hlo := hg.lo _ (List.getElem_mem (l := p) (n := i - 1) (by omega))
      have hhi := hg.hi _ (List.getElem_mem (l := p) (n := i) (by omega))
      have ew : wrap64 ((i : Int) - 1) = ((i - 1 : Nat) : Int) := by rw [wrap_id (by omega) (by omega)]; omega
      have unf : ∀ k, patch_row.l0 (k + 1) p (i : Int) = if (p[i]'(by omega)).f0 = (p[i - 1]'(by omega)).f0 + 1 then patch_row.l0 k p ((i + 1 : Nat) : Int) else some (i : Int) := by
        intro k
        simp only [patch_row.l0]
        rw [if_pos (by omega), if_pos (by omega), ew, if_pos (by omega), if_pos (by omega), rdT p i (by omega), rdT p (i - 1) (by omega), wrap_id (n := (p[i - 1]'(by omega)).f0 + 1) (by omega) (by omega), wrap_id (n := (i : Int) + 1) (by omega) (by omega)]
        rfl
      rw [e]
      by_cases c : (p[i]'(by omega)).f0 = (p[i - 1]'(by omega)).f0 + 1
      · have := ih (i + 1) (by omega) (by omega)
        have e3 : rowN (p[i - 1]'(by omega) :: p[i]'(by omega) :: p.drop (i + 1)) = 1 + rowN (p.drop i) := by
          rw [rowN, if_pos c, ← drop_cons p i (by omega)]
        rw [e3]
        rw [show i + 1 - 1 = i by omega] at this
        rw [show i - 1 + (1 + rowN (p.drop i)) = i + rowN (p.drop i) by omega]
        exact Ev.step (fun k => by rw [unf k, if_pos c]) this
      · have e3 : rowN (p[i - 1]'(by omega) :: p[i]'(by omega) :: p.drop (i + 1)) = 1 := by rw [rowN, if_neg c]
        rw [e3, show i - 1 + 1 = i by omega]
        exact Ev.step (f := fun _ => some (i : Int)) (fun k => by rw [unf k, if_neg c]) (Ev.now _)
  have h1 := key (p.length - 1) 1 (by omega) (by omega)
  refine Ev.congr (fun k => by unfold patch_row.f; rfl) (show Ev (fun k => patch_row.l0 k p 1) _ from ?_)
  simpa using h1
def rowS : Int → List Int → List S31
  | _, [] => []
  | a, v :: vs => ⟨a, v⟩ :: rowS (a + 1) vs
theorem rowS_len : ∀ (vs : List Int) (a : Int), (rowS a vs).length = vs.length
  | [], _ => rfl
  | _ :: vs, a => by simp [rowS, rowS_len vs]
theorem rowN_spec : ∀ (p : List S31) (c : S31), (c :: p).Pairwise (fun a b => a.f0 < b.f0) →
    (c :: p).take (rowN (c :: p)) = rowS c.f0 (((c :: p).take (rowN (c :: p))).map (·.f1)) ∧ ∀ d ∈ (c :: p).drop (rowN (c :: p)), c.f0 + (rowN (c :: p) : Nat) < d.f0
  | [], c, _ => ⟨by simp [rowN, rowS], fun d hd => by simp [rowN] at hd⟩
  | d :: r, c, hp => by
    cases hp with
    | cons h1 h2 =>
      obtain ⟨i1, i2⟩ := rowN_spec r d h2
      by_cases e : d.f0 = c.f0 + 1
      · have en : rowN (c :: d :: r) = rowN (d :: r) + 1 := by rw [rowN, if_pos e]; omega
        rw [en, List.take_succ_cons, List.drop_succ_cons]
        refine ⟨?_, fun x hx => ?_⟩
        · rw [List.map_cons, rowS, ← e]
          congr 1
        · have := i2 x hx
          omega
      · have en : rowN (c :: d :: r) = 1 := by rw [rowN, if_neg e]
        rw [en]
        refine ⟨by simp [rowS], fun x hx => ?_⟩
        have hd := h1 d (List.mem_cons_self ..)
        simp only [List.drop_succ_cons, List.drop_zero] at hx
        rcases List.mem_cons.1 hx with rfl | hx
        · omega
        · cases h2 with
          | cons h3 _ => have := h3 x hx; omega
theorem rowN_rowS : ∀ (vs : List Int) (a : Int) (q : List S31), vs ≠ [] → (∀ c ∈ q, a + (vs.length : Nat) < c.f0) → rowN (rowS a vs ++ q) = vs.length
  | [], _, _, h, _ => absurd rfl h
  | [v], a, q, _, hq => by
    cases q with
    | nil => rfl
    | cons c q =>
      have := hq c (List.mem_cons_self ..)
      simp only [List.length_cons, List.length_nil] at this
      show rowN (⟨a, v⟩ :: c :: q) = 1
      rw [rowN, if_neg (by show ¬ c.f0 = a + 1; omega)]
  | v :: v2 :: vs, a, q, _, hq => by
    have ih := rowN_rowS (v2 :: vs) (a + 1) q (by simp) (fun c hc => by have := hq c hc; simp only [List.length_cons] at this ⊢; omega)
    show rowN (⟨a, v⟩ :: ⟨a + 1, v2⟩ :: (rowS (a + 1 + 1) vs ++ q)) = _
    rw [rowN, if_pos rfl]
    have e : (rowS (a + 1) (v2 :: vs) ++ q) = ⟨a + 1, v2⟩ :: (rowS (a + 1 + 1) vs ++ q) := rfl
    rw [← e, ih]
    simp only [List.length_cons]
    omega
end Go.Proofs.Ytldlacphokbgcaa.Pure
