/- What a patch makes: Of, Make and Back in plain Lean. -/
import Derived.Test.YtldlacphokbgcaaPureBase
namespace Go.Proofs.Ytldlacphokbgcaa.Pure
open Go.RowKit Go.Proofs.Ytldlacphokbgcaa.Print Go.Proofs.YtldlacphokbgcaaW.PrintWords Go.Proofs.YtldlacphokbgcaaW.PrintLast Go.Proofs.YtldlacphokbgcaaW.PrintMore
set_option linter.unusedVariables false
set_option linter.unusedSimpArgs false

/-! ### where two lists differ -/
def ofN : Nat → List Int → List Int → List S31
  | i, x :: a, y :: b => if x = y then ofN (i + 1) a b else ⟨(i : Int), y⟩ :: ofN (i + 1) a b
  | _, [], _ => []
  | _, _ :: _, [] => []
theorem ofN_nil (i : Nat) (a : List Int) : ofN i a [] = [] := by cases a <;> rfl
theorem ofN_len : ∀ (a b : List Int) (i : Nat), (ofN i a b).length ≤ a.length
  | [], _, _ => Nat.zero_le _
  | _ :: _, [], _ => Nat.zero_le _
  | x :: a, y :: b, i => by
    unfold ofN
    have := ofN_len a b (i + 1)
    split
    · simp only [List.length_cons]; omega
    · simp only [List.length_cons]; omega
theorem ofN_take : ∀ (n : Nat) (a b : List Int) (i : Nat), b.length ≤ n ∨ a.length ≤ n → ofN i (a.take n) b = ofN i a b
  | _, [], _, _, _ => by simp
  | n, x :: a, [], i, h => by rw [ofN_nil, ofN_nil]
  | 0, x :: a, y :: b, i, h => by simp at h
  | n + 1, x :: a, y :: b, i, h => by
    rw [List.take_succ_cons]
    have := ofN_take n a b (i + 1) (by simp only [List.length_cons] at h; omega)
    simp only [ofN, this]
theorem ofN_same : ∀ (a : List Int) (i : Nat), ofN i a a = []
  | [], _ => rfl
  | x :: a, i => by simp only [ofN, if_true]; exact ofN_same a (i + 1)
theorem ofN_swap : ∀ (a b : List Int) (i : Nat), (ofN i a b).length = (ofN i b a).length
  | [], b, i => by rw [ofN_nil]; simp [ofN]
  | x :: a, [], i => by simp [ofN]
  | x :: a, y :: b, i => by
    have := ofN_swap a b (i + 1)
    by_cases e : x = y
    · subst e; simp only [ofN, if_true]; exact this
    · simp only [ofN, if_neg e, if_neg (fun h : y = x => e h.symm), List.length_cons, this]
theorem ofN_right : ∀ (a b : List Int) (i : Nat) (last : Int), last < (i : Int) → rightF last (ofN i a b) = true
  | [], b, i, last, h => by simp [ofN, rightF]
  | x :: a, [], i, last, h => by simp [ofN, rightF]
  | x :: a, y :: b, i, last, h => by
    by_cases e : x = y
    · simp only [ofN, if_pos e]; exact ofN_right a b (i + 1) last (by omega)
    · simp only [ofN, if_neg e, rightF, if_neg (show ¬ ((i : Int) ≤ last) by omega)]
      exact ofN_right a b (i + 1) (i : Int) (by omega)

/-! ### making -/
def put (a : List Int) (c : S31) : List Int := if 0 ≤ c.f0 ∧ c.f0 < (a.length : Int) then a.set c.f0.toNat c.f1 else a
def makeS (a : List Int) (p : List S31) : List Int := p.foldl put a
theorem makeS_of : ∀ (a b pre : List Int), a.length = b.length → makeS (pre ++ a) (ofN pre.length a b) = pre ++ b
  | [], b, pre, h => by
    have : b = [] := List.eq_nil_of_length_eq_zero (by simpa using h.symm)
    subst this; rfl
  | x :: a, [], pre, h => by simp at h
  | x :: a, y :: b, pre, h => by
    simp only [List.length_cons] at h
    by_cases e : x = y
    · subst e
      simp only [ofN, if_true]
      have := makeS_of a b (pre ++ [x]) (by omega)
      simpa using this
    · simp only [ofN, if_neg e]
      have := makeS_of a b (pre ++ [y]) (by omega)
      have e2 : put (pre ++ x :: a) (⟨(pre.length : Int), y⟩ : S31) = (pre ++ [y]) ++ a := by
        unfold put
        rw [if_pos ⟨Int.natCast_nonneg _, by simp; omega⟩]
        simp
      rw [makeS, List.foldl_cons, e2]
      simpa [makeS] using this

/-! ### back -/
def backS (a : List Int) (p : List S31) : List S31 := p.filterMap fun c => if c.f0 < (a.length : Int) then some ⟨c.f0, rd a c.f0⟩ else none
theorem backS_of : ∀ (a b pre : List Int), a.length = b.length → backS (pre ++ a) (ofN pre.length a b) = ofN pre.length b a
  | [], b, pre, h => by
    have : b = [] := List.eq_nil_of_length_eq_zero (by simpa using h.symm)
    subst this; rfl
  | x :: a, [], pre, h => by simp at h
  | x :: a, y :: b, pre, h => by
    simp only [List.length_cons] at h
    have := backS_of a b (pre ++ [x]) (by omega)
    rw [show (pre ++ [x]) ++ a = pre ++ x :: a by simp, show (pre ++ [x]).length = pre.length + 1 by simp] at this
    by_cases e : x = y
    · subst e
      simp only [ofN, if_true]
      exact this
    · simp only [ofN, if_neg e, if_neg (fun h : y = x => e h.symm)]
      have r : rd (pre ++ x :: a) (pre.length : Int) = x := by rw [rd_nat _ _ (by simp)]; simp
      rw [← this]
      unfold backS
      rw [List.filterMap_cons]
      simp only [r]
      rw [if_pos (by simp; omega)]
theorem backS_len (a : List Int) (p : List S31) : (backS a p).length ≤ p.length := List.length_filterMap_le _ _

/-! ### the program's Of -/
theorem mn_nat (a b : Nat) : mn (a : Int) (b : Int) = ((min a b : Nat) : Int) := by unfold mn; split <;> omega
theorem Of_ev (a b : List Int) (ha : a.length ≤ 1048576) (hb : b.length ≤ 1048576) : Ev (fun k => patch_Of.f k a b) (ofN 0 a b) := by
  have key : ∀ (t : List Int), t.length ≤ b.length → t.length ≤ 1048576 → ∀ (d i : Nat) (acc : List S31), acc.length ≤ i → i + d = t.length →
      Ev (fun k => patch_Of.l0 k b acc t (t.length : Int) (i : Int)) (acc ++ ofN i (t.drop i) (b.drop i)) := by
    intro t htb ht d
    induction d with
    | zero =>
      intro i acc hacc hi
      rw [List.drop_of_length_le (by omega)]
      simp only [ofN, List.append_nil]
      exact Ev.step (f := fun _ => some acc) (fun k => by simp only [patch_Of.l0]; rw [if_neg (by omega)]) (Ev.now _)
    | succ d ih =>
      intro i acc hacc hi
      rw [drop_cons t i (by omega), drop_cons b i (by omega)]
      by_cases e : t[i]'(by omega) = b[i]'(by omega)
      · have := ih (i + 1) acc (by omega) (by omega)
        rw [show ofN i (t[i]'(by omega) :: t.drop (i + 1)) (b[i]'(by omega) :: b.drop (i + 1)) = ofN (i + 1) (t.drop (i + 1)) (b.drop (i + 1)) by rw [ofN, if_pos e]]
        refine Ev.step (fun k => ?_) this
        simp only [patch_Of.l0]
        rw [if_pos (by omega), if_pos (by omega), if_pos (by omega), if_pos (by omega), rd_nat b i (by omega), rd_nat t i (by omega), if_pos e.symm, wrap_id (by omega) (by omega)]
        rfl
      · have := ih (i + 1) (acc ++ [⟨(i : Int), b[i]'(by omega)⟩]) (by simp; omega) (by omega)
        rw [show ofN i (t[i]'(by omega) :: t.drop (i + 1)) (b[i]'(by omega) :: b.drop (i + 1)) = ⟨(i : Int), b[i]'(by omega)⟩ :: ofN (i + 1) (t.drop (i + 1)) (b.drop (i + 1)) by rw [ofN, if_neg e]]
        rw [List.append_assoc] at this
        refine Ev.step (fun k => ?_) this
        simp only [patch_Of.l0]
        rw [if_pos (by omega), if_pos (by omega), if_pos (by omega), if_pos (by omega), rd_nat b i (by omega), rd_nat t i (by omega), if_neg (fun h => e h.symm), if_pos (by omega), wrap_id (by omega) (by omega)]
        rfl
  have h := key (a.take (min a.length b.length)) (by rw [List.length_take]; omega) (by rw [List.length_take]; omega) _ 0 [] (by simp) (by rw [Nat.zero_add])
  rw [List.nil_append, List.drop_zero, List.drop_zero, ofN_take _ _ _ _ (by omega)] at h
  refine Ev.congr (fun k => ?_) h
  unfold patch_Of.f
  rw [mn_nat, if_pos (by omega), if_pos (by omega)]
  rfl
theorem refOf_ev (a b : List Int) (ha : a.length ≤ 1048576) (hb : b.length ≤ 1048576) : Ev (fun k => escritoireref23_Of.f k a b) (ofN 0 a b) := by
  have key : ∀ (d i : Nat) (acc : List S31), acc.length ≤ i → i + d = min a.length b.length →
      Ev (fun k => escritoireref23_Of.l0 k a b acc (i : Int)) (acc ++ ofN i (a.drop i) (b.drop i)) := by
    intro d
    induction d with
    | zero =>
      intro i acc hacc hi
      have e : ofN i (a.drop i) (b.drop i) = [] := by
        by_cases h : a.length ≤ i
        · rw [List.drop_of_length_le h]; rfl
        · rw [List.drop_of_length_le (l := b) (by omega), ofN_nil]
      rw [e, List.append_nil]
      have fin : Ev (fun k => escritoireref23_Of.j1 k a b acc (i : Int) false) acc := Ev.step (f := fun _ => some acc) (fun k => by simp [escritoireref23_Of.j1]) (Ev.now _)
      by_cases h : (i : Int) < (a.length : Int)
      · refine Ev.step (fun k => ?_) fin
        simp only [escritoireref23_Of.l0]
        rw [if_pos h, show decide ((i : Int) < (b.length : Int)) = false by simp; omega]
      · refine Ev.step (fun k => ?_) fin
        simp only [escritoireref23_Of.l0]
        rw [if_neg h]
    | succ d ih =>
      intro i acc hacc hi
      have enter : Ev (fun k => escritoireref23_Of.j1 k a b acc (i : Int) true) (acc ++ ofN i (a.drop i) (b.drop i)) → Ev (fun k => escritoireref23_Of.l0 k a b acc (i : Int)) (acc ++ ofN i (a.drop i) (b.drop i)) := by
        intro h
        refine Ev.step (fun k => ?_) h
        simp only [escritoireref23_Of.l0]
        rw [if_pos (by omega), show decide ((i : Int) < (b.length : Int)) = true by simp; omega]
      apply enter
      rw [drop_cons a i (by omega), drop_cons b i (by omega)]
      by_cases e : a[i]'(by omega) = b[i]'(by omega)
      · have := ih (i + 1) acc (by omega) (by omega)
        rw [show ofN i (a[i]'(by omega) :: a.drop (i + 1)) (b[i]'(by omega) :: b.drop (i + 1)) = ofN (i + 1) (a.drop (i + 1)) (b.drop (i + 1)) by rw [ofN, if_pos e]]
        refine Ev.step (fun k => ?_) this
        simp only [escritoireref23_Of.j1]
        rw [if_pos trivial, if_pos (by omega), if_pos (by omega), if_pos (by omega), rd_nat b i (by omega), rd_nat a i (by omega), if_pos e, wrap_id (by omega) (by omega)]
        rfl
      · have := ih (i + 1) (acc ++ [⟨(i : Int), b[i]'(by omega)⟩]) (by simp; omega) (by omega)
        rw [show ofN i (a[i]'(by omega) :: a.drop (i + 1)) (b[i]'(by omega) :: b.drop (i + 1)) = ⟨(i : Int), b[i]'(by omega)⟩ :: ofN (i + 1) (a.drop (i + 1)) (b.drop (i + 1)) by rw [ofN, if_neg e]]
        rw [List.append_assoc] at this
        refine Ev.step (fun k => ?_) this
        simp only [escritoireref23_Of.j1]
        rw [if_pos trivial, if_pos (by omega), if_pos (by omega), if_pos (by omega), rd_nat b i (by omega), rd_nat a i (by omega), if_neg e, if_pos (by omega), wrap_id (by omega) (by omega)]
        rfl
  have h := key _ 0 [] (by simp) (by rw [Nat.zero_add])
  rw [List.nil_append, List.drop_zero, List.drop_zero] at h
  exact h

/-! ### the program's Make -/
theorem put_len (a : List Int) (c : S31) : (put a c).length = a.length := by unfold put; split <;> simp
theorem Make_ev (a : List Int) (p : List S31) (ha : a.length ≤ 1048576) (hp : p.length ≤ 1048576) : Ev (fun k => patch_Make.f k a p) (makeS a p) := by
  have key : ∀ (d i : Nat) (a : List Int), i + d = p.length → Ev (fun k => patch_Make.l0 k a p (p.length : Int) (i : Int)) (makeS a (p.drop i)) := by
    intro d
    induction d with
    | zero =>
      intro i a hi
      rw [List.drop_of_length_le (by omega)]
      exact Ev.step (f := fun _ => some a) (fun k => by simp only [patch_Make.l0]; rw [if_neg (by omega)]) (Ev.now _)
    | succ d ih =>
      intro i a hi
      rw [drop_cons p i (by omega), makeS, List.foldl_cons]
      refine Ev.step (fun k => ?_) (ih (i + 1) (put a (p[i]'(by omega))) (by omega))
      simp only [patch_Make.l0]
      rw [if_pos (by omega), if_pos (by omega), if_pos (by omega), rdT p i (by omega), wrap_id (by omega) (by omega)]
      unfold put
      by_cases h0 : 0 ≤ (p[i]'(by omega)).f0
      · by_cases h1 : (p[i]'(by omega)).f0 < (a.length : Int)
        · rw [if_pos h0, if_pos h1, if_pos h0, if_pos ⟨h0, h1⟩]; rfl
        · rw [if_pos h0, if_neg h1, if_neg (fun h => h1 h.2)]; rfl
      · rw [if_neg h0, if_neg (fun h => h0 h.1)]; rfl
  have h := key p.length 0 a (by omega)
  rw [List.drop_zero] at h
  refine Ev.congr (fun k => ?_) h
  unfold patch_Make.f slices_Clone_uint64_uint64.f
  rw [if_pos (by omega)]
  rfl
theorem refMake_ev (a : List Int) (p : List S31) (ha : a.length ≤ 1048576) (hp : p.length ≤ 1048576) : Ev (fun k => escritoireref23_Make.f k a p) (makeS a p) := by
  have key : ∀ (d i : Nat) (a : List Int), i + d = p.length → Ev (fun k => escritoireref23_Make.l0 k p a (i : Int)) (makeS a (p.drop i)) := by
    intro d
    induction d with
    | zero =>
      intro i a hi
      rw [List.drop_of_length_le (by omega)]
      exact Ev.step (f := fun _ => some a) (fun k => by simp only [escritoireref23_Make.l0]; rw [if_neg (by omega)]) (Ev.now _)
    | succ d ih =>
      intro i a hi
      rw [drop_cons p i (by omega), makeS, List.foldl_cons]
      refine Ev.step (fun k => ?_) (ih (i + 1) (put a (p[i]'(by omega))) (by omega))
      simp only [escritoireref23_Make.l0]
      rw [if_pos (by omega), if_pos (by omega), rdT p i (by omega), wrap_id (by omega) (by omega)]
      unfold put
      by_cases h0 : 0 ≤ (p[i]'(by omega)).f0
      · by_cases h1 : (p[i]'(by omega)).f0 < (a.length : Int)
        · rw [if_pos h0, if_pos h1, if_pos h0, if_pos ⟨h0, h1⟩]; rfl
        · rw [if_pos h0, if_neg h1, if_neg (fun h => h1 h.2)]; rfl
      · rw [if_neg h0, if_neg (fun h => h0 h.1)]; rfl
  have h := key p.length 0 a (by omega)
  rw [List.drop_zero] at h
  refine Ev.congr (fun k => ?_) h
  unfold escritoireref23_Make.f
  rw [if_pos (by simp; omega), List.nil_append]
  rfl

/-! ### Right and Back -/
theorem refRight_ev (p : List S31) (hp : p.length ≤ 1048576) : Ev (fun k => escritoireref23_Right.f k p) (rightF (-1) p) := by
  have key : ∀ (d i : Nat) (last : Int), i + d = p.length → -1 ≤ last → (∀ h : 0 < i, ∃ h' : i - 1 < p.length, last = (p[i - 1]'h').f0) → (i = 0 → last = -1) → Ev (fun k => escritoireref23_Right.l0 k p (i : Int)) (rightF last (p.drop i)) := by
    intro d
    induction d with
    | zero =>
      intro i last hi _ _ _
      rw [List.drop_of_length_le (by omega)]
      exact Ev.step (f := fun _ => some true) (fun k => by simp only [escritoireref23_Right.l0]; rw [if_neg (by omega)]) (Ev.now _)
    | succ d ih =>
      intro i last hi hlast hprev h0
      rw [drop_cons p i (by omega), rightF]
      by_cases hneg : (p[i]'(by omega)).f0 < 0
      · rw [if_pos (by omega)]
        refine Ev.step (f := fun _ => some false) (fun k => ?_) (Ev.now _)
        simp only [escritoireref23_Right.l0]
        rw [if_pos (by omega), if_pos (by omega), rdT p i (by omega), if_pos hneg]
      · by_cases hi0 : i = 0
        · have hl := h0 hi0
          rw [if_neg (by omega)]
          refine Ev.step (fun k => ?_) (ih (i + 1) (p[i]'(by omega)).f0 (by omega) (by omega) (fun _ => ⟨by omega, by simp⟩) (by omega))
          simp only [escritoireref23_Right.l0]
          rw [if_pos (by omega), if_pos (by omega), rdT p i (by omega), if_neg hneg, if_neg (by omega), wrap_id (by omega) (by omega)]
          rfl
        · obtain ⟨h', hl⟩ := hprev (by omega)
          have ew : wrap64 ((i : Int) - 1) = ((i - 1 : Nat) : Int) := by rw [wrap_id (by omega) (by omega)]; omega
          by_cases e : (p[i]'(by omega)).f0 ≤ last
          · rw [if_pos e]
            refine Ev.step (f := fun _ => some false) (fun k => ?_) (Ev.now _)
            simp only [escritoireref23_Right.l0]
            rw [if_pos (by omega), if_pos (by omega), rdT p i (by omega), if_neg hneg, if_pos (by omega), ew, if_pos (by omega), if_pos (by omega), rdT p _ h', ← hl, if_pos e]
          · rw [if_neg e]
            refine Ev.step (fun k => ?_) (ih (i + 1) (p[i]'(by omega)).f0 (by omega) (by omega) (fun _ => ⟨by omega, by simp⟩) (by omega))
            simp only [escritoireref23_Right.l0]
            rw [if_pos (by omega), if_pos (by omega), rdT p i (by omega), if_neg hneg, if_pos (by omega), ew, if_pos (by omega), if_pos (by omega), rdT p _ h', ← hl, if_neg e, wrap_id (by omega) (by omega)]
            rfl
  exact key p.length 0 (-1) (by omega) (by omega) (fun h => absurd h (by omega)) (fun _ => rfl)
theorem filterMap_step (a : List Int) (c : S31) (q : List S31) : backS a (c :: q) = (if c.f0 < (a.length : Int) then [⟨c.f0, rd a c.f0⟩] else []) ++ backS a q := by
  unfold backS
  rw [List.filterMap_cons]
  by_cases h : c.f0 < (a.length : Int)
  · simp only [if_pos h]; rfl
  · simp only [if_neg h]; rfl
theorem Back_ev (a : List Int) (p : List S31) (ha : a.length ≤ 1048576) (hp : p.length ≤ 1048576) : Ev (fun k => patch_Back.f k a p) (if rightF (-1) p = true then backS a p else []) := by
  refine Ev.congr (fun k => by unfold patch_Back.f; rfl) (Ev.bind (Right_ev p (by omega)) ?_)
  by_cases hr : rightF (-1) p = true
  · rw [hr]
    have pos : ∀ c ∈ p, 0 ≤ c.f0 := fun c hc => by have := (rightF_up p _ hr).1 c hc; omega
    have key : ∀ (d i : Nat) (acc : List S31), acc.length ≤ i → i + d = p.length → Ev (fun k => patch_Back.l0 k a acc p (p.length : Int) (i : Int)) (acc ++ backS a (p.drop i)) := by
      intro d
      induction d with
      | zero =>
        intro i acc _ hi
        rw [List.drop_of_length_le (by omega), show backS a [] = [] from rfl, List.append_nil]
        exact Ev.step (f := fun _ => some acc) (fun k => by simp only [patch_Back.l0]; rw [if_neg (by omega)]) (Ev.now _)
      | succ d ih =>
        intro i acc hacc hi
        have h0 := pos (p[i]'(by omega)) (List.getElem_mem _)
        rw [drop_cons p i (by omega), filterMap_step, ← List.append_assoc]
        by_cases h1 : (p[i]'(by omega)).f0 < (a.length : Int)
        · rw [if_pos h1]
          refine Ev.step (fun k => ?_) (ih (i + 1) _ (by simp; omega) (by omega))
          simp only [patch_Back.l0]
          rw [if_pos (by omega), if_pos (by omega), if_pos (by omega), rdT p i (by omega), if_pos h1, if_pos h0, if_pos (by omega), wrap_id (by omega) (by omega)]
          rfl
        · rw [if_neg h1, List.append_nil]
          refine Ev.step (fun k => ?_) (ih (i + 1) acc (by omega) (by omega))
          simp only [patch_Back.l0]
          rw [if_pos (by omega), if_pos (by omega), if_pos (by omega), rdT p i (by omega), if_neg h1, wrap_id (by omega) (by omega)]
          rfl
    have h := key p.length 0 [] (by simp) (by omega)
    exact Ev.congr (fun k => by rw [if_pos rfl]) (by simpa using h)
  · rw [if_neg hr]
    exact Ev.congr (f := fun _ => some []) (fun k => by rw [if_neg hr]) (Ev.now _)
theorem refBack_ev (a : List Int) (p : List S31) (ha : a.length ≤ 1048576) (hp : p.length ≤ 1048576) : Ev (fun k => escritoireref23_Back.f k a p) (if rightF (-1) p = true then backS a p else []) := by
  have stop : ∀ (i : Int) (acc : List S31), Ev (fun k => escritoireref23_Back.j1 k a p acc i false) acc := fun i acc => Ev.step (f := fun _ => some acc) (fun k => by simp [escritoireref23_Back.j1]) (Ev.now _)
  have hR := refRight_ev p hp
  by_cases hr : rightF (-1) p = true
  · rw [if_pos hr]
    rw [hr] at hR
    have pos : ∀ c ∈ p, 0 ≤ c.f0 := fun c hc => by have := (rightF_up p _ hr).1 c hc; omega
    have key : ∀ (d i : Nat) (acc : List S31), acc.length ≤ i → i + d = p.length → Ev (fun k => escritoireref23_Back.l0 k a p acc (i : Int)) (acc ++ backS a (p.drop i)) := by
      intro d
      induction d with
      | zero =>
        intro i acc _ hi
        rw [List.drop_of_length_le (by omega), show backS a [] = [] from rfl, List.append_nil]
        refine Ev.step (fun k => ?_) (stop (i : Int) acc)
        simp only [escritoireref23_Back.l0]
        rw [if_neg (by omega)]
      | succ d ih =>
        intro i acc hacc hi
        have h0 := pos (p[i]'(by omega)) (List.getElem_mem _)
        refine Ev.step (fun k => by simp only [escritoireref23_Back.l0]; rw [if_pos (by omega)]) (Ev.bind hR ?_)
        rw [drop_cons p i (by omega), filterMap_step, ← List.append_assoc]
        by_cases h1 : (p[i]'(by omega)).f0 < (a.length : Int)
        · rw [if_pos h1]
          refine Ev.step (fun k => ?_) (ih (i + 1) _ (by simp; omega) (by omega))
          simp only [escritoireref23_Back.j1]
          rw [if_pos trivial, if_pos (by omega), if_pos (by omega), rdT p i (by omega), if_pos h1, if_pos h0, if_pos (by omega), wrap_id (by omega) (by omega)]
          rfl
        · rw [if_neg h1, List.append_nil]
          refine Ev.step (fun k => ?_) (ih (i + 1) acc (by omega) (by omega))
          simp only [escritoireref23_Back.j1]
          rw [if_pos trivial, if_pos (by omega), if_pos (by omega), rdT p i (by omega), if_neg h1, wrap_id (by omega) (by omega)]
          rfl
    have h := key p.length 0 [] (by simp) (by omega)
    exact Ev.congr (f := fun k => escritoireref23_Back.l0 k a p [] 0) (fun k => rfl) (by simpa using h)
  · have hr' : rightF (-1) p = false := by simpa using hr
    rw [if_neg hr]
    rw [hr'] at hR
    by_cases h0 : p.length = 0
    · have : p = [] := List.eq_nil_of_length_eq_zero h0
      subst this; exact absurd rfl hr
    · refine Ev.congr (fun k => rfl) (Ev.step (g := fun k => escritoireref23_Back.l0 k a p [] 0) (fun k => by simp only [escritoireref23_Back.l0]; rw [if_pos (by omega)]) (Ev.bind hR (stop 0 [])))
end Go.Proofs.Ytldlacphokbgcaa.Pure
