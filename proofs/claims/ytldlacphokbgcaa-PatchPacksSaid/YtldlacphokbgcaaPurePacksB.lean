/- Joining by the document's words, lines. -/
import Derived.Test.YtldlacphokbgcaaPurePatchJoin
namespace Go.Proofs.Ytldlacphokbgcaa.Pure
open Go.RowKit Go.Proofs.Ytldlacphokbgcaa.Print Go.Proofs.YtldlacphokbgcaaW.PrintWords Go.Proofs.YtldlacphokbgcaaW.PrintLast Go.Proofs.YtldlacphokbgcaaW.PrintMore Go.Proofs.Ytldlacphokbgcaa.Jo
set_option linter.unusedVariables false
set_option linter.unusedSimpArgs false
abbrev Up (s : List S31) : Prop := s.Pairwise (fun a b => a.f0 < b.f0)
def jo (p q : List S31) : List (Int × Int) := joinA (pairs p) q
theorem jo_sorted {p q : List S31} (hp : Up p) : ML.Sorted (jo p q) := joinA_sorted q _ (pairs_sorted hp)
theorem jo_get {p q : List S31} (hq : Up q) (k : Int) : ML.get (jo p q) k = (ML.get (pairs q) k).or (ML.get (pairs p) k) := get_joinA q hq _ k
theorem jo_mem {p q : List S31} {y : Int × Int} (h : y ∈ jo p q) : (∃ c ∈ q, c.f0 = y.1) ∨ ∃ c ∈ p, c.f0 = y.1 := by
  rcases joinA_mem q _ y h with ⟨c, hc, e, _⟩ | h
  · exact Or.inl ⟨c, hc, e⟩
  · obtain ⟨c, hc, rfl⟩ := List.mem_map.1 h
    exact Or.inr ⟨c, hc, rfl⟩
theorem jo_cons {p q p2 q2 : List S31} {x v : Int} (hp : Up p) (hq : Up q) (hp2 : Up p2) (hq2 : Up q2) (h1 : ∀ c ∈ p2, x < c.f0) (h2 : ∀ c ∈ q2, x < c.f0)
    (hg : ∀ k, (ML.get (pairs q) k).or (ML.get (pairs p) k) = if x = k then some v else (ML.get (pairs q2) k).or (ML.get (pairs p2) k)) : jo p q = (x, v) :: jo p2 q2 := by
  refine ML.ext (jo_sorted hp) (List.pairwise_cons.2 ⟨fun y hy => ?_, jo_sorted hp2⟩) fun k => ?_
  · rcases jo_mem hy with ⟨c, hc, e⟩ | ⟨c, hc, e⟩
    · rw [← e]; exact h2 c hc
    · rw [← e]; exact h1 c hc
  · rw [jo_get hq, hg, ML.get_cons, jo_get hq2]
theorem pairs_cons (c : S31) (p : List S31) : pairs (c :: p) = (c.f0, c.f1) :: pairs p := rfl
theorem pairs_none {p : List S31} {x : Int} (h : ∀ c ∈ p, x < c.f0) : ML.get (pairs p) x = none := get_none_lt fun y hy => by
  obtain ⟨c, hc, rfl⟩ := List.mem_map.1 hy
  exact h c hc
theorem Up.tail {c : S31} {p : List S31} (h : Up (c :: p)) : Up p := (List.pairwise_cons.1 h).2
theorem Up.head {c : S31} {p : List S31} (h : Up (c :: p)) : ∀ d ∈ p, c.f0 < d.f0 := (List.pairwise_cons.1 h).1
theorem jo_left {c : S31} {p q : List S31} (hp : Up (c :: p)) (hq : Up q) (h : ∀ d ∈ q, c.f0 < d.f0) : jo (c :: p) q = (c.f0, c.f1) :: jo p q := by
  refine jo_cons hp hq hp.tail hq hp.head h fun k => ?_
  rw [pairs_cons, ML.get_cons]
  by_cases hk : c.f0 = k
  · subst hk; rw [pairs_none h]; simp
  · simp [hk]
theorem jo_right {d : S31} {p q : List S31} (hp : Up p) (hq : Up (d :: q)) (h : ∀ c ∈ p, d.f0 < c.f0) : jo p (d :: q) = (d.f0, d.f1) :: jo p q := by
  refine jo_cons hp hq hp hq.tail h hq.head fun k => ?_
  rw [pairs_cons, ML.get_cons]
  by_cases hk : d.f0 = k
  · simp [hk]
  · simp [hk]
theorem jo_same {c d : S31} {p q : List S31} (hp : Up (c :: p)) (hq : Up (d :: q)) (h : c.f0 = d.f0) : jo (c :: p) (d :: q) = (d.f0, d.f1) :: jo p q := by
  refine jo_cons hp hq hp.tail hq.tail (fun x hx => h ▸ hp.head x hx) hq.head fun k => ?_
  rw [pairs_cons, pairs_cons, ML.get_cons, ML.get_cons, h]
  by_cases hk : d.f0 = k <;> simp [hk]
theorem canon_cons (x v : Int) (m : List (Int × Int)) : canonL ((x, v) :: m) = (⟨x, v⟩ : S31) :: canonL m := rfl
theorem refJoin_l0 : ∀ (n : Nat) (p q acc : List S31), p.length + q.length < n → p.length + q.length + acc.length ≤ 1000 → Up p → Up q → Ev (fun k => escritoireref23_Join.l0 k p q acc) (acc ++ canonL (jo p q)) := by
  intro n
  induction n with
  | zero => intro p q acc h; omega
  | succ n ih =>
    intro p q acc hn hl hp hq
    match p, q, hn, hl, hp, hq with
    | [], [], _, _, _, _ =>
      refine Ev.step (fun k => by simp only [escritoireref23_Join.l0]; rw [if_neg (by decide)]) ?_
      refine Ev.step (f := fun _ => some acc) (fun k => by simp [escritoireref23_Join.j2]) ?_
      rw [show canonL (jo [] []) = ([] : List S31) from rfl, List.append_nil]
      exact Ev.now _
    | c :: p, [], hn, hl, hp, hq =>
      have := ih p [] (acc ++ [⟨c.f0, c.f1⟩]) (by simp only [List.length_cons, List.length_nil] at hn ⊢; omega) (by simp only [List.length_cons, List.length_nil, List.length_append] at hl ⊢; omega) hp.tail hq
      rw [jo_left hp hq (fun d hd => by cases hd), canon_cons]
      refine Ev.step (fun k => by simp only [escritoireref23_Join.l0]; rw [if_pos (by simp only [List.length_cons, List.length_nil]; omega)]) ?_
      refine Ev.step (fun k => by simp only [escritoireref23_Join.j2]; rw [if_pos trivial, if_pos (by simp)]) ?_
      refine Ev.step (fun k => by simp only [escritoireref23_Join.j3]; rw [if_pos trivial, if_pos (by simp only [List.length_cons, List.length_nil]; omega), if_pos (by simp only [List.length_cons, List.length_nil] at hl; omega), if_pos (by simp only [List.length_cons, List.length_nil]; omega)]) ?_
      rw [List.append_assoc, List.singleton_append] at this
      exact this
    | [], d :: q, hn, hl, hp, hq =>
      have := ih [] q (acc ++ [⟨d.f0, d.f1⟩]) (by simp only [List.length_cons, List.length_nil] at hn ⊢; omega) (by simp only [List.length_cons, List.length_nil, List.length_append] at hl ⊢; omega) hp hq.tail
      rw [jo_right hp hq (fun c hc => by cases hc), canon_cons]
      refine Ev.step (fun k => by simp only [escritoireref23_Join.l0]; rw [if_neg (by decide), decide_eq_true (by simp only [List.length_cons, List.length_nil]; omega)]) ?_
      refine Ev.step (fun k => by simp only [escritoireref23_Join.j2]; rw [if_pos trivial, if_neg (by simp only [List.length_cons, List.length_nil]; omega), if_neg (by decide)]) ?_
      refine Ev.step (fun k => by simp only [escritoireref23_Join.j3]; rw [if_neg (by decide), if_neg (by decide), if_pos (by simp only [List.length_cons, List.length_nil]; omega), if_pos (by simp only [List.length_cons, List.length_nil] at hl; omega), if_pos (by simp only [List.length_cons, List.length_nil]; omega)]) ?_
      rw [List.append_assoc, List.singleton_append] at this
      exact this
    | c :: p, d :: q, hn, hl, hp, hq =>
      have r0 : rd_T31 (c :: p) 0 = c := rfl
      have r1 : rd_T31 (d :: q) 0 = d := rfl
      have s0 : ∀ k, escritoireref23_Join.l0 (k + 1) (c :: p) (d :: q) acc = escritoireref23_Join.j2 k (c :: p) (d :: q) acc true := fun k => by simp only [escritoireref23_Join.l0]; rw [if_pos (by simp only [List.length_cons, List.length_nil]; omega)]
      have s1 : ∀ k, escritoireref23_Join.j2 (k + 1) (c :: p) (d :: q) acc true = escritoireref23_Join.j3 k (c :: p) (d :: q) acc (decide (c.f0 < d.f0)) := fun k => by simp only [escritoireref23_Join.j2]; rw [if_pos trivial, if_neg (by simp only [List.length_cons, List.length_nil]; omega), if_pos (by simp only [List.length_cons, List.length_nil]; omega), if_pos (by simp only [List.length_cons, List.length_nil]; omega), if_pos (by simp only [List.length_cons, List.length_nil]; omega), r0, r1]
      refine Ev.step s0 (Ev.step s1 ?_)
      by_cases h : c.f0 < d.f0
      · have := ih p (d :: q) (acc ++ [⟨c.f0, c.f1⟩]) (by simp only [List.length_cons, List.length_nil] at hn ⊢; omega) (by simp only [List.length_cons, List.length_nil, List.length_append] at hl ⊢; omega) hp.tail hq
        rw [jo_left hp hq (fun x hx => (List.mem_cons.1 hx).elim (fun e => e ▸ h) (fun hx => by have := hq.head x hx; omega)), canon_cons, decide_eq_true h]
        refine Ev.step (fun k => by simp only [escritoireref23_Join.j3]; rw [if_pos trivial, if_pos (by simp only [List.length_cons, List.length_nil]; omega), if_pos (by simp only [List.length_cons, List.length_nil] at hl; omega), if_pos (by simp only [List.length_cons, List.length_nil]; omega), r0]) ?_
        rw [List.append_assoc, List.singleton_append] at this
        exact this
      · rw [decide_eq_false h]
        by_cases h2 : c.f0 = d.f0
        · have := ih p q (acc ++ [⟨d.f0, d.f1⟩]) (by simp only [List.length_cons, List.length_nil] at hn ⊢; omega) (by simp only [List.length_cons, List.length_nil, List.length_append] at hl ⊢; omega) hp.tail hq.tail
          rw [jo_same hp hq h2, canon_cons]
          refine Ev.step (fun k => by simp only [escritoireref23_Join.j3]; rw [if_neg (by decide), if_pos (by simp only [List.length_cons, List.length_nil]; omega), if_pos (by simp only [List.length_cons, List.length_nil]; omega), if_pos (by simp only [List.length_cons, List.length_nil]; omega), r0, r1, if_pos h2, if_pos (by simp only [List.length_cons, List.length_nil]; omega), if_pos (by simp only [List.length_cons, List.length_nil] at hl; omega), if_pos (by simp only [List.length_cons, List.length_nil]; omega)]) ?_
          rw [List.append_assoc, List.singleton_append] at this
          exact this
        · have := ih (c :: p) q (acc ++ [⟨d.f0, d.f1⟩]) (by simp only [List.length_cons, List.length_nil] at hn ⊢; omega) (by simp only [List.length_cons, List.length_nil, List.length_append] at hl ⊢; omega) hp hq.tail
          rw [jo_right hp hq (fun x hx => (List.mem_cons.1 hx).elim (fun e => by subst e; omega) (fun hx => by have := hp.head x hx; omega)), canon_cons]
          refine Ev.step (fun k => by simp only [escritoireref23_Join.j3]; rw [if_neg (by decide), if_pos (by simp only [List.length_cons, List.length_nil]; omega), if_pos (by simp only [List.length_cons, List.length_nil]; omega), if_pos (by simp only [List.length_cons, List.length_nil]; omega), r0, r1, if_neg h2, if_pos (by simp only [List.length_cons, List.length_nil] at hl; omega), if_pos (by simp only [List.length_cons, List.length_nil]; omega)]) ?_
          rw [List.append_assoc, List.singleton_append] at this
          exact this
theorem refJoin_ev (p q : List S31) (hp : p.length ≤ 60) (hq : q.length ≤ 60) : Ev (fun k => escritoireref23_Join.f k p q) (if rightF (-1) p = true ∧ rightF (-1) q = true then canonL (joinM (p ++ q)) else []) := by
  have bad : Ev (fun k => escritoireref23_Join.j0 k p q true) ([] : List S31) := Ev.step (f := fun _ => some ([] : List S31)) (fun k => by simp [escritoireref23_Join.j0]) (Ev.now _)
  refine Ev.congr (fun k => by unfold escritoireref23_Join.f; rfl) (Ev.bind (refRight_ev p (by omega)) ?_)
  cases hR : rightF (-1) p with
  | false => rw [if_neg (by simp)]; exact Ev.congr (fun k => if_neg (by simp)) bad
  | true =>
    refine Ev.congr (fun k => if_pos rfl) (Ev.bind (refRight_ev q (by omega)) ?_)
    cases hS : rightF (-1) q with
    | false => rw [if_neg (by simp)]; exact bad
    | true =>
      rw [if_pos ⟨rfl, rfl⟩]
      have hup := (rightF_up p _ hR).2
      have huq := (rightF_up q _ hS).2
      have e : joinM (p ++ q) = jo p q := by
        rw [joinM_eq, joinA_app]
        unfold jo
        have := join_canon (pairs_sorted hup)
        rw [canon_pairs] at this
        rw [← joinM_eq, this]
      rw [e]
      have := refJoin_l0 (p.length + q.length + 1) p q [] (by omega) (by simp; omega) hup huq
      rw [List.nil_append] at this
      exact Ev.step (fun k => by simp only [escritoireref23_Join.j0]; rw [if_neg (by decide)]) this
/-! lines -/
theorem SameInts_ev (l : List Int) (h : l.length ≤ 140737488351232) : Ev (fun k => escritoireref01_SameInts.f k l l) true := by
  have key : ∀ (d i : Nat), i + d = l.length → Ev (fun k => escritoireref01_SameInts.l0 k l l (i : Int)) true := by
    intro d
    induction d with
    | zero => intro i hi; exact Ev.step (fun k => by simp only [escritoireref01_SameInts.l0]; rw [if_neg (by omega)]) (Ev.now _)
    | succ d ih =>
      intro i hi
      refine Ev.step (fun k => ?_) (ih (i + 1) (by omega))
      simp only [escritoireref01_SameInts.l0]
      rw [if_pos (by omega), if_pos (by omega), if_pos (by omega), if_pos trivial, wrap_id (by omega) (by omega)]
      rfl
  exact Ev.congr (fun k => by unfold escritoireref01_SameInts.f; rw [if_pos rfl]; rfl) (key l.length 0 (by omega))
theorem cU_len (d : Array Int) (m : Nat) : (Lib.compactUpTo d m).length ≤ m := by
  unfold Lib.compactUpTo
  rw [List.length_map]
  exact Nat.le_trans (List.length_filter_le _ _) (by simp)
theorem cU_last (d : Array Int) : ∀ m, ∃ a, Lib.compactUpTo d (m + 1) = a ++ [d[m]!] := by
  intro m
  induction m with
  | zero => rw [Lib.compactUpTo_succ, Lib.keeps_lt_one d 0 (by omega), if_pos rfl]; exact ⟨_, rfl⟩
  | succ m ih =>
    rw [Lib.compactUpTo_succ]
    by_cases h : d[m + 1]! = d[m + 1 - 1]!
    · rw [Lib.keeps_neg (by omega) h, if_neg (by simp), List.append_nil, h]
      exact ih
    · rw [Lib.keeps_pos h, if_pos rfl]; exact ⟨_, rfl⟩
theorem linesAt (p : List S31) (i : Nat) (hi : i < p.length) : (linesOf p).toArray[i]! = wrap64 (Int.tdiv p[i].f0 8) := by
  unfold linesOf
  simp [hi]
theorem refLines_ev (p : List S31) (hl : p.length ≤ 60) : Ev (fun k => escritoireref23_Lines.f k p) (if rightF (-1) p = true then Lib.compact (linesOf p) else []) := by
  have hend : ∀ acc : List Int, Ev (fun k => escritoireref23_Lines.j1 k p acc (p.length : Int) false) acc := fun acc => Ev.step (f := fun _ => some acc) (fun k => by simp [escritoireref23_Lines.j1]) (Ev.now _)
  cases hR : rightF (-1) p with
  | false =>
    rw [if_neg (by simp)]
    have hp : 0 < p.length := by cases p with | nil => cases hR | cons c p => simp
    refine Ev.congr (fun k => by unfold escritoireref23_Lines.f; rfl) (Ev.step (fun k => by simp only [escritoireref23_Lines.l0]; rw [if_pos (by omega)]) ?_)
    have h := refRight_ev p (by omega)
    rw [hR] at h
    exact Ev.bind h (Ev.step (f := fun _ => some ([] : List Int)) (fun k => by simp [escritoireref23_Lines.j1]) (Ev.now _))
  | true =>
    rw [if_pos rfl]
    have hRe := refRight_ev p (by omega)
    rw [hR] at hRe
    have hlen : (linesOf p).length = p.length := linesOf_len p
    have key : ∀ (d i : Nat), i + d = p.length → Ev (fun k => escritoireref23_Lines.l0 k p (Lib.compactUpTo (linesOf p).toArray i) (i : Int)) (Lib.compactUpTo (linesOf p).toArray p.length) := by
      intro d
      induction d with
      | zero =>
        intro i hi
        have : i = p.length := by omega
        subst this
        exact Ev.step (fun k => by simp only [escritoireref23_Lines.l0]; rw [if_neg (by omega)]) (hend _)
      | succ d ih =>
        intro i hi
        have hi2 : i < p.length := by omega
        have e := linesAt p i hi2
        have ih2 := ih (i + 1) (by omega)
        have hcl := cU_len (linesOf p).toArray i
        refine Ev.step (fun k => by simp only [escritoireref23_Lines.l0]; rw [if_pos (by omega)]) (Ev.bind hRe ?_)
        rw [Lib.compactUpTo_succ] at ih2
        cases i with
        | zero =>
          rw [Lib.keeps_lt_one _ 0 (by omega), if_pos rfl, e] at ih2
          refine Ev.step (fun k => ?_) ih2
          simp only [escritoireref23_Lines.j1]
          rw [if_pos trivial, if_pos (by omega), if_pos (by omega), if_pos (by rfl), if_pos (by simp [Lib.compactUpTo]), show ((0 : Nat) : Int) = 0 from rfl, show (0 : Int) = ((0 : Nat) : Int) from rfl, rdT p 0 hi2, wrap_id (n := ((0 : Nat) : Int) + 1) (by omega) (by omega)]
          rfl
        | succ i =>
          obtain ⟨a, ha⟩ := cU_last (linesOf p).toArray i
          have e0 := linesAt p i (by omega)
          have hcl2 : (Lib.compactUpTo (linesOf p).toArray (i + 1)).length = a.length + 1 := by rw [ha]; simp
          have hrd : rd (Lib.compactUpTo (linesOf p).toArray (i + 1)) (((a.length : Nat)) : Int) = wrap64 (Int.tdiv (p[i]'(by omega)).f0 8) := by
            rw [ha, e0]; unfold rd; simp
          have hw : wrap64 (((Lib.compactUpTo (linesOf p).toArray (i + 1)).length : Int) - 1) = ((a.length : Nat) : Int) := by rw [hcl2, wrap_id (by omega) (by omega)]; omega
          have hx : (Lib.compactUpTo (linesOf p).toArray (i + 1)).length < 17592186044416 := by omega
          have unf : ∀ k, escritoireref23_Lines.j1 (k + 1) p (Lib.compactUpTo (linesOf p).toArray (i + 1)) ((i + 1 : Nat) : Int) true = if wrap64 (Int.tdiv (p[i]'(by omega)).f0 8) = wrap64 (Int.tdiv p[i + 1].f0 8) then escritoireref23_Lines.l0 k p (Lib.compactUpTo (linesOf p).toArray (i + 1)) ((i + 1 + 1 : Nat) : Int) else escritoireref23_Lines.l0 k p (Lib.compactUpTo (linesOf p).toArray (i + 1) ++ [wrap64 (Int.tdiv p[i + 1].f0 8)]) ((i + 1 + 1 : Nat) : Int) := by
            intro k
            simp only [escritoireref23_Lines.j1]
            rw [if_pos trivial, if_pos (by omega), if_pos (by omega), if_neg (by omega), hw, if_pos (by omega), if_pos (by omega), hrd, rdT p (i + 1) hi2, wrap_id (n := ((i + 1 : Nat) : Int) + 1) (by omega) (by omega), if_pos hx]
            rfl
          by_cases h : wrap64 (Int.tdiv (p[i]'(by omega)).f0 8) = wrap64 (Int.tdiv p[i + 1].f0 8)
          · rw [Lib.keeps_neg (by omega) (by rw [e, show i + 1 - 1 = i from rfl, e0]; exact h.symm), if_neg (by simp), List.append_nil] at ih2
            exact Ev.step (fun k => by rw [unf k, if_pos h]) ih2
          · rw [Lib.keeps_pos (by rw [e, show i + 1 - 1 = i from rfl, e0]; exact fun x => h x.symm), if_pos rfl, e] at ih2
            exact Ev.step (fun k => by rw [unf k, if_neg h]) ih2
    have h := key p.length 0 (by omega)
    refine Ev.congr (fun k => by unfold escritoireref23_Lines.f; rfl) ?_
    have hc : Lib.compact (linesOf p) = Lib.compactUpTo (linesOf p).toArray p.length := by unfold Lib.compact; rw [hlen]
    rw [hc]
    exact h
theorem Lines_ev (p : List S31) (hl : p.length ≤ 60) : Ev (fun k => patch_Lines.f k p) (if rightF (-1) p = true then Lib.compact (linesOf p) else []) := by
  refine Ev.congr (fun k => by unfold patch_Lines.f; rfl) (Ev.bind (Right_ev p (by omega)) ?_)
  cases hR : rightF (-1) p with
  | false => exact Ev.congr (f := fun _ => some []) (fun k => by simp) (by simpa using Ev.now _)
  | true => exact Ev.congr (f := fun _ => some (Lib.compact (linesOf p))) (fun k => by rw [if_pos rfl, if_pos (by omega)]) (by simpa using Ev.now _)
end Go.Proofs.Ytldlacphokbgcaa.Pure
