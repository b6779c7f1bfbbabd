/- Packing and unpacking by the document's words. -/
import Derived.Test.YtldlacphokbgcaaPurePatchUnpacks
import Derived.Test.YtldlacphokbgcaaPureMakes
namespace Go.Proofs.Ytldlacphokbgcaa.Pure
open Go.RowKit Go.Proofs.Ytldlacphokbgcaa.Print Go.Proofs.YtldlacphokbgcaaW.PrintWords Go.Proofs.YtldlacphokbgcaaW.PrintLast Go.Proofs.YtldlacphokbgcaaW.PrintMore
set_option linter.unusedVariables false
set_option linter.unusedSimpArgs false
theorem rowS_get : ∀ (vs : List Int) (a : Int) (n : Nat) (h : n < (rowS a vs).length), ((rowS a vs)[n]).f0 = a + (n : Int)
  | [], _, n, h => by simp [rowS] at h
  | v :: vs, a, 0, h => by simp [rowS]
  | v :: vs, a, n + 1, h => by
    have := rowS_get vs (a + 1) n (by simp [rowS] at h; exact h)
    simp only [rowS, List.getElem_cons_succ]
    rw [this]; omega
/-- The places of a row. -/
theorem row_at (p : List S31) (hg : Good p) (i : Nat) (hi : i < p.length) : (∀ n (hn : n < rowN (p.drop i)) (h : i + n < p.length), p[i + n].f0 = p[i].f0 + (n : Int)) ∧ i + rowN (p.drop i) ≤ p.length ∧ ∀ h : i + rowN (p.drop i) < p.length, p[i + rowN (p.drop i)].f0 ≠ p[i].f0 + (rowN (p.drop i) : Nat) := by
  have hne : p.drop i ≠ [] := by intro e; have h := congrArg List.length e; rw [List.length_drop, List.length_nil] at h; omega
  have hle := rowN_le (p.drop i) hne
  rw [List.length_drop] at hle
  have hg2 := hg.drop i
  have hd : p.drop i = p[i] :: p.drop (i + 1) := drop_cons p i hi
  have hup := hg2.up
  rw [hd] at hup
  obtain ⟨s1, s2⟩ := rowN_spec _ _ hup
  rw [← hd] at s1 s2
  generalize hr : rowN (p.drop i) = r at *
  refine ⟨fun n hn h => ?_, by omega, fun h => ?_⟩
  · have h1 : (p.drop i).take r = rowS p[i].f0 (((p.drop i).take r).map (·.f1)) := s1
    have hl : n < ((p.drop i).take r).length := by rw [List.length_take, List.length_drop]; omega
    have e1 : ((p.drop i).take r)[n] = p[i + n] := by rw [List.getElem_take, List.getElem_drop]
    have e2 : ((p.drop i).take r)[n].f0 = p[i].f0 + (n : Int) := by
      have := rowS_get (((p.drop i).take r).map (·.f1)) p[i].f0 n (by rw [rowS_len, List.length_map]; exact hl)
      rw [← this]
      congr 1
      exact List.getElem_of_eq h1 hl
    rw [← e1]; exact e2
  · have hm : p[i + r] ∈ (p.drop i).drop r := by
      rw [List.drop_drop, drop_cons p (i + r) h]
      exact List.mem_cons_self ..
    have := s2 _ hm
    omega
theorem rpack_l2 (p : List S31) (i r : Nat) (hir : i + r ≤ p.length) (hl : p.length ≤ 1000) {res : List Int} : ∀ (d m : Nat) (acc : List Int), m + d = r → acc.length + d ≤ 100000 →
    Ev (fun k => escritoireref23_Pack.l0 k p (acc ++ ((p.drop (i + m)).take d).map (·.f1)) ((i + r : Nat) : Int)) res → Ev (fun k => escritoireref23_Pack.l2 k p acc (i : Int) (r : Int) (m : Int)) res := by
  intro d
  induction d with
  | zero =>
    intro m acc hm _ h
    rw [List.take_zero, List.map_nil, List.append_nil] at h
    refine Ev.step (fun k => ?_) h
    simp only [escritoireref23_Pack.l2]
    rw [if_neg (by omega), wrap_id (n := (i : Int) + r) (by omega) (by omega)]
    rfl
  | succ d ih =>
    intro m acc hm ha h
    rw [drop_cons p (i + m) (by omega), List.take_succ_cons, List.map_cons, List.append_cons] at h
    refine Ev.step (fun k => ?_) (ih (m + 1) (acc ++ [(p[i + m]'(by omega)).f1]) (by omega) (by simp; omega) h)
    have hx : acc.length < 17592186044416 := by omega
    have e1 : wrap64 ((i : Int) + m) = ((i + m : Nat) : Int) := by rw [wrap_id (by omega) (by omega)]; omega
    simp only [escritoireref23_Pack.l2]
    rw [if_pos (by omega), e1, if_pos (by omega), if_pos (by omega), if_pos hx, rdT p (i + m) (by omega), wrap_id (n := (m : Int) + 1) (by omega) (by omega)]
    rfl
theorem rpack_l1 (p : List S31) (hg : Good p) (hl : p.length ≤ 1000) (i : Nat) (hi : i < p.length) (acc : List Int) {res : List Int} (h : Ev (fun k => escritoireref23_Pack.j3 k p acc (i : Int) ((rowN (p.drop i) : Nat) : Int)) res) :
    ∀ (d n : Nat), n + d = rowN (p.drop i) → Ev (fun k => escritoireref23_Pack.l1 k p acc (i : Int) (n : Int)) res := by
  obtain ⟨a1, a2, a3⟩ := row_at p hg i hi
  have hlo := hg.lo _ (List.getElem_mem (l := p) (n := i) hi)
  generalize hr : rowN (p.drop i) = r at *
  intro d
  induction d with
  | zero =>
    intro n hn
    have : n = r := by omega
    subst this
    refine Ev.step (fun k => ?_) h
    have e1 : wrap64 ((i : Int) + n) = ((i + n : Nat) : Int) := by rw [wrap_id (by omega) (by omega)]; omega
    simp only [escritoireref23_Pack.l1]
    rw [e1]
    by_cases c : i + n < p.length
    · have hx := a3 c
      have hhi := hg.hi _ (List.getElem_mem (l := p) (n := i) hi)
      rw [if_pos (by omega), if_pos (by omega), if_pos (by omega), if_pos (by omega), rdT p (i + n) c, rdT p i hi]
      have hne : ¬ (p[i + n].f0 = wrap64 (p[i].f0 + (n : Int))) := by
        have hlt : (p[i]).f0 < (p[i + n]).f0 ∨ n = 0 := by
          by_cases hn0 : n = 0
          · exact Or.inr hn0
          · exact Or.inl (List.pairwise_iff_getElem.1 hg.up i (i + n) hi c (by omega))
        have hhi2 := hg.hi _ (List.getElem_mem (l := p) (n := i + n) c)
        have hlo2 := hg.lo _ (List.getElem_mem (l := p) (n := i + n) c)
        unfold wrap64
        omega
      rw [if_neg hne]
    · rw [if_neg (by omega)]
  | succ d ih =>
    intro n hn
    have hb : i + n < p.length := by omega
    have hx := a1 n (by omega) hb
    have hhi := hg.hi _ (List.getElem_mem (l := p) (n := i + n) hb)
    have e1 : wrap64 ((i : Int) + n) = ((i + n : Nat) : Int) := by rw [wrap_id (by omega) (by omega)]; omega
    refine Ev.step (fun k => ?_) (ih (n + 1) (by omega))
    simp only [escritoireref23_Pack.l1]
    rw [e1, if_pos (by omega), if_pos (by omega), if_pos (by omega), if_pos (by omega), rdT p (i + n) hb, rdT p i hi, wrap_id (n := p[i].f0 + (n : Int)) (by omega) (by omega), if_pos hx, wrap_id (n := (n : Int) + 1) (by omega) (by omega)]
    rfl
theorem rpack_l0 (p : List S31) (hg : Good p) (hl : p.length ≤ 1000) : ∀ (f i : Nat) (acc : List Int), (p.drop i).length < f → i ≤ p.length → acc.length + 3 * (p.length - i) ≤ 10000 → Ev (fun k => escritoireref23_Pack.l0 k p acc (i : Int)) (acc ++ packF f (p.drop i)) := by
  intro f
  induction f with
  | zero => intro i acc h; omega
  | succ f ih =>
    intro i acc hf hi ha
    rw [List.length_drop] at hf
    by_cases c : i < p.length
    · have hR := refRight_ev p (by omega)
      rw [hg.right] at hR
      obtain ⟨a1, a2, a3⟩ := row_at p hg i c
      have hpos := rowN_pos (p.drop i)
      have hd : p.drop i = p[i] :: p.drop (i + 1) := drop_cons p i c
      have hlo := hg.lo _ (List.getElem_mem (l := p) (n := i) c)
      have hhi := hg.hi _ (List.getElem_mem (l := p) (n := i) c)
      refine Ev.step (fun k => by simp only [escritoireref23_Pack.l0]; rw [if_pos (by omega)]) (Ev.bind hR ?_)
      refine Ev.step (fun k => by simp only [escritoireref23_Pack.j1]; rw [if_pos trivial]) ?_
      refine rpack_l1 p hg hl i c acc ?_ (rowN (p.drop i) - 1) 1 (by omega)
      have e : packF (f + 1) (p.drop i) = p[i].f0 :: ((rowN (p.drop i) : Nat) : Int) :: (((p.drop i).take (rowN (p.drop i))).map (·.f1) ++ packF f ((p.drop i).drop (rowN (p.drop i)))) := by
        conv => lhs; rw [hd, packF, ← hd]
      rw [e, List.drop_drop]
      generalize hr : rowN (p.drop i) = r at *
      have ih2 := ih (i + r) (acc ++ [p[i].f0, (r : Int)] ++ ((p.drop i).take r).map (·.f1)) (by rw [List.length_drop]; omega) (by omega) (by simp only [List.length_append, List.length_map, List.length_take, List.length_drop, List.length_cons, List.length_nil]; omega)
      have h2 := rpack_l2 p i r a2 hl (res := acc ++ p[i].f0 :: (r : Int) :: (((p.drop i).take r).map (·.f1) ++ packF f (p.drop (i + r)))) r 0 (acc ++ [p[i].f0, (r : Int)]) (by omega) (by simp; omega) (by
        rw [Nat.add_zero]
        simpa [List.append_assoc] using ih2)
      refine Ev.step (fun k => ?_) h2
      have hx : acc.length + 2 < 17592186044416 := by omega
      simp only [escritoireref23_Pack.j3]
      rw [if_pos (by omega), if_pos (by omega), rdT p i c, wrapu_id (n := p[i].f0) (by omega) (by omega), wrapu_id (n := ((r : Nat) : Int)) (by omega) (by omega)]
      simp only [Option.bind_some, List.length_cons, List.length_nil]
      rw [if_pos hx]
      rfl
    · have : i = p.length := by omega
      subst this
      rw [List.drop_length, packF, List.append_nil]
      refine Ev.step (fun k => by simp only [escritoireref23_Pack.l0]; rw [if_neg (by omega)]) ?_
      exact Ev.step (f := fun _ => some acc) (fun k => by simp [escritoireref23_Pack.j1]) (Ev.now _)
theorem refPack_ev (p : List S31) (hl : p.length ≤ 1000) (hw : ∀ c ∈ p, c.f0 < 9223372036854775808 ∧ 0 ≤ c.f1 ∧ c.f1 < 18446744073709551616) : Ev (fun k => escritoireref23_Pack.f k p) (if rightF (-1) p = true then packF (p.length + 1) p else []) := by
  refine Ev.congr (fun k => by unfold escritoireref23_Pack.f; rfl) ?_
  cases hR : rightF (-1) p with
  | false =>
    rw [if_neg (by simp)]
    have hp : 0 < p.length := by cases p with | nil => cases hR | cons c p => simp
    have h := refRight_ev p (by omega)
    rw [hR] at h
    refine Ev.step (fun k => by simp only [escritoireref23_Pack.l0]; rw [if_pos (by omega)]) (Ev.bind h ?_)
    exact Ev.step (f := fun _ => some ([] : List Int)) (fun k => by simp [escritoireref23_Pack.j1]) (Ev.now _)
  | true =>
    rw [if_pos rfl]
    have := rpack_l0 p (Good.of hR hw) hl (p.length + 1) 0 [] (by simp) (by omega) (by simp; omega)
    simpa using this
/-! ### unpacking -/
def looseF : Nat → List Int → Option (List S31)
  | 0, _ => none
  | _ + 1, [] => some []
  | _ + 1, [_] => none
  | n + 1, a :: m :: rest => if 4611686018427387904 < a ∨ m < 1 ∨ (rest.length : Int) < m then none else (looseF n (rest.drop m.toNat)).map (fun q => rowS a (rest.take m.toNat) ++ q)
def finR (l : List Int) : Option (List S31) → List S31 × Bool
  | none => ([], false)
  | some out => if rightF (-1) out = true ∧ packF (out.length + 1) out = l then (out, true) else ([], false)
theorem finR_some (l : List Int) (out : List S31) : finR l (some out) = if rightF (-1) out = true ∧ packF (out.length + 1) out = l then (out, true) else ([], false) := rfl
abbrev okV (acc : List S31) : Prop := ∀ c ∈ acc, c.f0 < 9223372036854775808 ∧ 0 ≤ c.f1 ∧ c.f1 < 18446744073709551616
theorem runp_cmp (l x acc) (hx : x.length = l.length) (hl : l.length ≤ 1000) : Ev (fun k => escritoireref23_Unpack.l2 k l acc x 0) (if x = l then (acc, true) else (([] : List S31), false)) := by
  have key : ∀ (d i : Nat), i + d = l.length → Ev (fun k => escritoireref23_Unpack.l2 k l acc x (i : Int)) (if x.drop i = l.drop i then (acc, true) else (([] : List S31), false)) := by
    intro d
    induction d with
    | zero =>
      intro i hi
      rw [List.drop_of_length_le (by omega), List.drop_of_length_le (by omega), if_pos rfl]
      exact Ev.step (f := fun _ => some (acc, true)) (fun k => by simp only [escritoireref23_Unpack.l2]; rw [if_neg (by omega)]) (Ev.now _)
    | succ d ih =>
      intro i hi
      have hix : i < x.length := by omega
      have hil : i < l.length := by omega
      by_cases e : x[i] = l[i]
      · have := ih (i + 1) (by omega)
        have e2 : (x.drop i = l.drop i) = (x.drop (i + 1) = l.drop (i + 1)) := by
          rw [drop_cons x i hix, drop_cons l i hil, e]
          exact propext ⟨fun h => (List.cons.inj h).2, fun h => by rw [h]⟩
        simp only [e2]
        refine Ev.step (fun k => ?_) this
        simp only [escritoireref23_Unpack.l2]
        rw [if_pos (by omega), if_pos (by omega), if_pos (by omega), rd_nat x i hix, rd_nat l i hil, if_pos e, wrap_id (by omega) (by omega)]
        rfl
      · rw [if_neg (by rw [drop_cons x i hix, drop_cons l i hil]; exact fun h => e (List.cons.inj h).1)]
        refine Ev.step (f := fun _ => some (([] : List S31), false)) (fun k => ?_) (Ev.now _)
        simp only [escritoireref23_Unpack.l2]
        rw [if_pos (by omega), if_pos (by omega), if_pos (by omega), rd_nat x i hix, rd_nat l i hil, if_neg e]
  have h := key l.length 0 (by omega)
  rw [List.drop_zero, List.drop_zero] at h
  exact h
theorem runp_end (l acc) (hl : l.length ≤ 1000) (ha : acc.length ≤ 1000) (hw : okV acc) : Ev (fun k => escritoireref23_Unpack.l0 k l acc (l.length : Int)) (finR l (some acc)) := by
  have bad : ∀ x, Ev (fun k => escritoireref23_Unpack.j3 k l acc x true) (([] : List S31), false) := fun x => Ev.step (f := fun _ => some (([] : List S31), false)) (fun k => by simp [escritoireref23_Unpack.j3]) (Ev.now _)
  refine Ev.step (fun k => by simp only [escritoireref23_Unpack.l0]; rw [if_neg (by omega)]) (Ev.bind (refPack_ev acc ha hw) (Ev.bind (refRight_ev acc (by omega)) ?_))
  rw [finR_some]
  cases hR : rightF (-1) acc with
  | false => rw [if_neg (by simp)]; exact Ev.congr (fun k => if_neg (by simp)) (bad _)
  | true =>
    simp only [true_and, if_true]
    by_cases hc : (packF (acc.length + 1) acc).length = l.length
    · refine Ev.step (f := fun k => escritoireref23_Unpack.l2 k l acc (packF (acc.length + 1) acc) 0) (fun k => ?_) (runp_cmp l _ acc hc hl)
      simp [escritoireref23_Unpack.j3, hc]
    · rw [if_neg (fun h => hc (by rw [h]))]
      have e : ((((packF (acc.length + 1) acc).length : Int)) != (l.length : Int)) = true := by simp; omega
      rw [e]
      exact bad _
theorem runp_l1 (l : List Int) (hl : l.length ≤ 1000) (i : Nat) (a : Int) (r : Nat) (h0 : 0 ≤ a) (h1 : a ≤ 4611686018427387904) (hi : i + 2 + r ≤ l.length) (ha : l[i]? = some a) (hr : l[i + 1]? = some (r : Int)) {res : List S31 × Bool} : ∀ (d j : Nat) (acc : List S31), j + d = r → acc.length + d ≤ 100000 →
    Ev (fun k => escritoireref23_Unpack.l0 k l (acc ++ rowS (a + j) ((l.drop (i + 2 + j)).take d)) ((i + 2 + r : Nat) : Int)) res → Ev (fun k => escritoireref23_Unpack.l1 k l acc (i : Int) (j : Int)) res := by
  have E0 := Aside0.mk (show rd l (i : Int) = a by unfold rd; rw [Int.toNat_natCast, List.getD_eq_getElem?_getD, ha]; rfl)
  have E1 := Aside0.mk (show rd l ((i + 1 : Nat) : Int) = (r : Int) by unfold rd; rw [Int.toNat_natCast, List.getD_eq_getElem?_getD, hr]; rfl)
  have W1 := Aside0.mk (show wrap64 ((i : Int) + 1) = ((i + 1 : Nat) : Int) by rw [wrap_id (by omega) (by omega)]; omega)
  have W2 := Aside0.mk (show wrap64 ((i : Int) + 2) = ((i + 2 : Nat) : Int) by rw [wrap_id (by omega) (by omega)]; omega)
  have W3 := Aside0.mk (show wrap64 (r : Int) = (r : Int) from wrap_id (by omega) (by omega))
  clear ha hr
  intro d
  induction d with
  | zero =>
    intro j acc hj _ h
    rw [List.take_zero, rowS, List.append_nil] at h
    have q1 : (0 : Int) ≤ ((i + 1 : Nat) : Int) := by omega
    have q2 : ((i + 1 : Nat) : Int) < (l.length : Int) := by omega
    have q3 : ¬ (j : Int) < (r : Int) := by omega
    have w5 : wrap64 (2 + (r : Int)) = 2 + (r : Int) := wrap_id (by omega) (by omega)
    have w6 : wrap64 ((i : Int) + (2 + (r : Int))) = ((i + 2 + r : Nat) : Int) := by rw [wrap_id (by omega) (by omega)]; omega
    refine Ev.step (fun k => ?_) h
    simp only [escritoireref23_Unpack.l1]
    rw [W1.out, if_pos q1, if_pos q2, E1.out, W3.out, if_neg q3, w5, w6]
  | succ d ih =>
    intro j acc hj hacc h
    have hb : i + 2 + j < l.length := by omega
    rw [drop_cons l (i + 2 + j) hb, List.take_succ_cons, rowS, List.append_cons, show a + (j : Int) + 1 = a + ((j + 1 : Nat) : Int) by omega] at h
    have ih2 := ih (j + 1) (acc ++ [⟨a + j, l[i + 2 + j]⟩]) (by omega) (by rw [List.length_append, List.length_singleton]; omega) h
    clear h ih
    have p1 : (0 : Int) ≤ ((i + 1 : Nat) : Int) := by omega
    have p2 : ((i + 1 : Nat) : Int) < (l.length : Int) := by omega
    have p3 : (j : Int) < (r : Int) := by omega
    have p4 : (0 : Int) ≤ (i : Int) := by omega
    have p5 : (i : Int) < (l.length : Int) := by omega
    have p6 : (0 : Int) ≤ ((i + 2 + j : Nat) : Int) := by omega
    have p7 : ((i + 2 + j : Nat) : Int) < (l.length : Int) := by omega
    have hx : acc.length < 8796093022208 := by omega
    have W4 := Aside0.mk (show wrap64 (((i + 2 : Nat) : Int) + (j : Int)) = ((i + 2 + j : Nat) : Int) by rw [wrap_id (by omega) (by omega)]; omega)
    have W5 := Aside0.mk (show wrap64 a = a from wrap_id (by omega) (by omega))
    have W6 := Aside0.mk (show wrap64 (a + (j : Int)) = a + (j : Int) from wrap_id (by omega) (by omega))
    have W7 := Aside0.mk (show wrap64 ((j : Int) + 1) = ((j + 1 : Nat) : Int) by rw [wrap_id (by omega) (by omega)]; omega)
    refine Ev.step (fun k => ?_) ih2
    clear ih2
    simp only [escritoireref23_Unpack.l1]
    rw [W1.out, if_pos p1, if_pos p2, E1.out, W3.out, if_pos p3, if_pos p4, if_pos p5, W2.out, W4.out, if_pos p6, if_pos p7, if_pos hx, E0.out, W5.out, W6.out, rd_nat l (i + 2 + j) hb, W7.out]
theorem rowS_okV : ∀ (vs : List Int) (b : Int), (∀ x ∈ vs, 0 ≤ x ∧ x < 18446744073709551616) → b + (vs.length : Int) ≤ 9223372036854775807 → okV (rowS b vs)
  | [], b, _, _ => fun c hc => by cases hc
  | v :: vs, b, h, hb => fun c hc => by
    rcases List.mem_cons.1 hc with rfl | hc
    · have := h v (List.mem_cons_self ..)
      simp only [List.length_cons] at hb
      exact ⟨by show b < _; omega, this.1, this.2⟩
    · exact rowS_okV vs (b + 1) (fun x hx => h x (List.mem_cons_of_mem _ hx)) (by simp only [List.length_cons] at hb; omega) c hc
theorem runp_l0 (l : List Int) (hl : l.length ≤ 1000) (hw : ∀ x ∈ l, 0 ≤ x ∧ x < 18446744073709551616) : ∀ (n i : Nat) (acc : List S31), (l.drop i).length < n → i ≤ l.length → acc.length ≤ i → okV acc → Ev (fun k => escritoireref23_Unpack.l0 k l acc (i : Int)) (finR l ((looseF n (l.drop i)).map (fun q => acc ++ q))) := by
  intro n
  induction n with
  | zero => intro i acc h; omega
  | succ n ih =>
    intro i acc hn hi hacc hok
    rw [List.length_drop] at hn
    have bad : Ev (fun k => escritoireref23_Unpack.j1 k l acc (i : Int) true) (([] : List S31), false) := Ev.step (f := fun _ => some (([] : List S31), false)) (fun k => by simp [escritoireref23_Unpack.j1]) (Ev.now _)
    by_cases c0 : i = l.length
    · subst c0
      rw [List.drop_length, looseF, Option.map_some, List.append_nil]
      exact runp_end l acc hl (by omega) hok
    · have hil : i < l.length := by omega
      have w1 : wrap64 ((i : Int) + 1) = ((i + 1 : Nat) : Int) := by rw [wrap_id (by omega) (by omega)]; omega
      by_cases c1 : i + 1 = l.length
      · have e : l.drop i = [l[i]] := by rw [drop_cons l i hil, List.drop_of_length_le (by omega)]
        rw [e, looseF, Option.map_none]
        refine Ev.step (fun k => ?_) bad
        simp only [escritoireref23_Unpack.l0]
        rw [if_pos (by omega), w1, if_pos (by omega)]
      · have hil1 : i + 1 < l.length := by omega
        obtain ⟨ha0, ha1⟩ := hw l[i] (List.getElem_mem hil)
        obtain ⟨hm0, hm1⟩ := hw l[i + 1] (List.getElem_mem hil1)
        have e : l.drop i = l[i] :: l[i + 1] :: l.drop (i + 2) := by rw [drop_cons l i hil, drop_cons l (i + 1) hil1]
        have r0 := rd_nat l i hil
        have r1 := rd_nat l (i + 1) hil1
        have hga : l[i]? = some l[i] := List.getElem?_eq_getElem hil
        have hgm : l[i + 1]? = some l[i + 1] := List.getElem?_eq_getElem hil1
        rw [e, looseF]
        generalize l[i] = a at *
        generalize l[i + 1] = m at *
        have hdl : (l.drop (i + 2)).length = l.length - (i + 2) := List.length_drop ..
        by_cases cb : 4611686018427387904 < a ∨ m < 1 ∨ ((l.drop (i + 2)).length : Int) < m
        · rw [if_pos cb, Option.map_none]
          refine Ev.step (fun k => ?_) bad
          simp only [escritoireref23_Unpack.l0]
          rw [if_pos (by omega), w1, if_neg (by omega), if_pos (by omega), r0]
          by_cases h1 : a > 4611686018427387904
          · rw [if_pos h1]
          · rw [if_neg h1, if_pos (by omega), if_pos (by omega), r1]
            by_cases h2 : m < 1
            · rw [if_pos h2]
            · rw [if_neg h2, wrapu_id (n := (l.length : Int)) (by omega) (by omega)]
              by_cases h3 : m > (l.length : Int)
              · rw [if_pos h3]
              · rw [if_neg h3, wrap_id (n := (i : Int) + 2) (by omega) (by omega), wrap_id (n := m) (by omega) (by omega), wrap_id (n := (i : Int) + 2 + m) (by omega) (by omega), decide_eq_true (by omega)]
        · rw [if_neg cb, Option.map_map]
          obtain ⟨r, hr⟩ : ∃ r : Nat, m = (r : Int) := ⟨m.toNat, by omega⟩
          subst hr
          rw [Int.toNat_natCast]
          have hyl : ((l.drop (i + 2)).take r).length = r := by rw [List.length_take]; omega
          have hrow : okV (rowS a ((l.drop (i + 2)).take r)) := rowS_okV _ _ (fun x hx => hw x (List.mem_of_mem_drop (List.mem_of_mem_take hx))) (by rw [hyl]; omega)
          have ih2 := ih (i + 2 + r) (acc ++ rowS a ((l.drop (i + 2)).take r)) (by rw [List.length_drop]; omega) (by omega) (by rw [List.length_append, rowS_len, hyl]; omega) (fun c hc => (List.mem_append.1 hc).elim (hok c) (hrow c))
          have ef : (fun q => acc ++ rowS a ((l.drop (i + 2)).take r) ++ q) = (fun q => acc ++ q) ∘ (fun q => rowS a ((l.drop (i + 2)).take r) ++ q) := by funext q; simp
          rw [ef] at ih2
          rw [List.drop_drop]
          have h1 := runp_l1 l hl i a r ha0 (by omega) (by omega) hga hgm r 0 acc (by omega) (by omega) (by rw [show a + ((0 : Nat) : Int) = a by omega, Nat.add_zero]; exact ih2)
          have s0 : ∀ k, escritoireref23_Unpack.l0 (k + 1) l acc (i : Int) = escritoireref23_Unpack.j1 k l acc (i : Int) false := by
            intro k
            simp only [escritoireref23_Unpack.l0]
            rw [if_pos (by omega), w1, if_neg (by omega), if_pos (by omega), r0, if_neg (by omega), if_pos (by omega), if_pos (by omega), r1, if_neg (by omega), wrapu_id (n := (l.length : Int)) (by omega) (by omega), if_neg (by omega), wrap_id (n := (i : Int) + 2) (by omega) (by omega), wrap_id (n := (r : Int)) (by omega) (by omega), wrap_id (n := (i : Int) + 2 + r) (by omega) (by omega), decide_eq_false (by omega)]
          exact Ev.step s0 (Ev.step (fun k => by simp only [escritoireref23_Unpack.j1]; rw [if_neg (by decide)]; rfl) h1)
theorem loose_of_unp : ∀ (n : Nat) (l : List Int) (next : Int) (q : List S31), unpF n next l = some q → looseF n l = some q := by
  intro n
  induction n with
  | zero => intro l next q h; cases h
  | succ n ih =>
    intro l next q h
    match l, h with
    | [], h => rw [unpF] at h; exact h
    | [x], h => rw [unpF] at h; cases h
    | a :: m :: rest, h =>
      rw [unpF] at h
      rw [looseF]
      split at h
      · cases h
      · rename_i c
        rw [if_neg (fun h => c (by rcases h with h | h | h; exact .inl h; exact .inr (.inl h); exact .inr (.inr (.inl h))))]
        obtain ⟨q', hq', rfl⟩ := Option.map_eq_some_iff.1 h
        rw [ih _ _ _ hq']; rfl
theorem unp_pack2 : ∀ (n m : Nat) (p : List S31) (next : Int), p.length < n → (packF n p).length < m → Good p → (∀ c ∈ p, next < c.f0) → (looseF m (packF n p)).isSome = true → unpF m next (packF n p) = some p := by
  intro n
  induction n with
  | zero => intro m p next h; omega
  | succ n ih =>
    intro m p next hn hm hg hx hs
    obtain ⟨m, rfl⟩ : ∃ j, m = j + 1 := ⟨m - 1, by omega⟩
    cases p with
    | nil => rw [packF, unpF]
    | cons c p =>
      have hpos := rowN_pos (c :: p)
      have hle := rowN_le (c :: p) (by simp)
      obtain ⟨s1, s2⟩ := rowN_spec p c hg.up
      have hc2 := hx c (List.mem_cons_self ..)
      rw [packF] at hm hs ⊢
      generalize hr : rowN (c :: p) = r at *
      have hv : (((c :: p).take r).map (·.f1)).length = r := by rw [List.length_map, List.length_take]; omega
      rw [looseF] at hs
      have hcc : c.f0 ≤ 4611686018427387904 := by
        by_cases h : 4611686018427387904 < c.f0
        · rw [if_pos (.inl h)] at hs; cases hs
        · omega
      rw [if_neg (by rw [List.length_append, hv]; omega), Int.toNat_natCast, List.drop_left' hv, List.take_left' hv, Option.isSome_map] at hs
      rw [unpF, if_neg (by rw [List.length_append, hv]; omega), Int.toNat_natCast, List.drop_left' hv, List.take_left' hv]
      have ih2 := ih m ((c :: p).drop r) (c.f0 + r) (by rw [List.length_drop]; omega) (by simp only [List.length_cons, List.length_append] at hm; omega) (hg.drop r) s2 hs
      rw [ih2, Option.map_some, ← s1, List.take_append_drop]
theorem loose_okV : ∀ (n : Nat) (l : List Int) (q : List S31), (∀ x ∈ l, 0 ≤ x ∧ x < 18446744073709551616) → l.length ≤ 1000 → looseF n l = some q → okV q := by
  intro n
  induction n with
  | zero => intro l q _ _ h; cases h
  | succ n ih =>
    intro l q hw hl h
    match l, hw, hl, h with
    | [], _, _, h => rw [looseF] at h; obtain rfl := Option.some.inj h; exact fun c hc => by cases hc
    | [x], _, _, h => rw [looseF] at h; cases h
    | a :: m :: rest, hw, hl, h =>
      rw [looseF] at h
      split at h
      · cases h
      · rename_i c
        obtain ⟨q', hq', rfl⟩ := Option.map_eq_some_iff.1 h
        simp only [List.length_cons] at hl
        have hw2 : ∀ x ∈ rest, 0 ≤ x ∧ x < 18446744073709551616 := fun x hx => hw x (List.mem_cons_of_mem _ (List.mem_cons_of_mem _ hx))
        have h1 := ih _ q' (fun x hx => hw2 x (List.mem_of_mem_drop hx)) (by rw [List.length_drop]; omega) hq'
        have h2 := rowS_okV (rest.take m.toNat) a (fun x hx => hw2 x (List.mem_of_mem_take hx)) (by rw [List.length_take]; omega)
        exact fun c hc => (List.mem_append.1 hc).elim (h2 c) (h1 c)
theorem fin_unp (l : List Int) (hl : l.length ≤ 1000) (hw : ∀ x ∈ l, 0 ≤ x ∧ x < 18446744073709551616) : finR l (looseF (l.length + 1) l) = unpR [] (unpF (l.length + 1) (-1) l) := by
  cases h : unpF (l.length + 1) (-1) l with
  | some q =>
    obtain ⟨g, gx, gl, gp⟩ := pack_unp _ l _ q hw hl h
    rw [loose_of_unp _ _ _ _ h, finR_some]
    rw [if_pos ⟨g.right, gp _ (by omega)⟩]
    simp [unpR]
  | none =>
    cases h2 : looseF (l.length + 1) l with
    | none => rfl
    | some q =>
      rw [finR_some]
      split
      · rename_i hc
        exfalso
        have hg := Good.of hc.1 (loose_okV _ l q hw hl h2)
        have h3 := unp_pack2 (q.length + 1) (l.length + 1) q (-1) (by omega) (by rw [hc.2]; omega) hg (fun c hc => by have := hg.lo c hc; omega) (by rw [hc.2, h2]; rfl)
        rw [hc.2, h] at h3
        cases h3
      · rfl
theorem refUnpack_ev (l : List Int) (hl : l.length ≤ 1000) (hw : ∀ x ∈ l, 0 ≤ x ∧ x < 18446744073709551616) : Ev (fun k => escritoireref23_Unpack.f k l) (unpR [] (unpF (l.length + 1) (-1) l)) := by
  have h := runp_l0 l hl hw (l.length + 1) 0 [] (by simp) (by omega) (by simp) (fun c hc => by cases hc)
  rw [List.drop_zero] at h
  have e : (looseF (l.length + 1) l).map (fun q => [] ++ q) = looseF (l.length + 1) l := by cases looseF (l.length + 1) l <;> rfl
  rw [e, fin_unp l hl hw] at h
  exact Ev.congr (fun k => by unfold escritoireref23_Unpack.f; rfl) h
end Go.Proofs.Ytldlacphokbgcaa.Pure
