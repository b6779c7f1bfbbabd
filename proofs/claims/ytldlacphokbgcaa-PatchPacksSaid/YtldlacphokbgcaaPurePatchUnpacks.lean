/- What is packed comes back; what is unpacked is packed as just these words. -/
import Derived.Test.YtldlacphokbgcaaPureBase
namespace Go.Proofs.Ytldlacphokbgcaa.Pure
open Go.RowKit Go.Proofs.Ytldlacphokbgcaa.Print Go.Proofs.YtldlacphokbgcaaW.PrintWords Go.Proofs.YtldlacphokbgcaaW.PrintLast Go.Proofs.YtldlacphokbgcaaW.PrintMore

/-! ### packing -/
def packF : Nat → List S31 → List Int
  | 0, _ => []
  | _ + 1, [] => []
  | n + 1, c :: p => c.f0 :: ((rowN (c :: p) : Nat) : Int) :: (((c :: p).take (rowN (c :: p))).map (·.f1) ++ packF n ((c :: p).drop (rowN (c :: p))))
theorem pack_l1 {p y : List S31} {n : Nat} {r : List Int} (hn : n ≤ p.length) (_hp : p.length ≤ 1000000) (hy : y.length ≤ 1000000) : ∀ (d i : Nat) (acc : List Int), i + d = y.length → acc.length + d ≤ 10000000 →
    Ev (fun k => patch_Pack.l0 k (p.drop n) (acc ++ (y.drop i).map (·.f1))) r → Ev (fun k => patch_Pack.l1 k p acc ((n : Nat) : Int) y (y.length : Int) (i : Int)) r := by
  intro d
  induction d with
  | zero =>
    intro i acc hi _ h
    rw [show y.drop i = [] from List.drop_of_length_le (by omega), List.map_nil, List.append_nil] at h
    refine Ev.step (fun k => ?_) h
    simp only [patch_Pack.l1]
    rw [if_neg (by omega), if_pos (by omega), if_pos (by omega), Int.toNat_natCast]
  | succ d ih =>
    intro i acc hi ha h
    rw [drop_cons y i (by omega), List.map_cons, List.append_cons] at h
    refine Ev.step (fun k => ?_) (ih (i + 1) (acc ++ [(y[i]'(by omega)).f1]) (by omega) (by simp; omega) h)
    simp only [patch_Pack.l1]
    rw [if_pos (by omega), if_pos (by omega), if_pos (by omega), if_pos (by omega), rdT y i (by omega), wrap_id (by omega) (by omega)]
    rfl
theorem pack_ev : ∀ (n : Nat) (p : List S31) (acc : List Int), p.length < n → Good p → p.length ≤ 1000 → acc.length + 3 * p.length ≤ 1000000 → Ev (fun k => patch_Pack.l0 k p acc) (acc ++ packF n p) := by
  intro n
  induction n with
  | zero => intro p acc h; omega
  | succ n ih =>
    intro p acc hn hg hl ha
    cases p with
    | nil =>
      rw [packF, List.append_nil]
      exact Ev.step (f := fun _ => some acc) (fun k => by simp only [patch_Pack.l0]; rw [if_neg (by decide)]) (Ev.now _)
    | cons c p =>
      have hpos := rowN_pos (c :: p)
      have hle := rowN_le (c :: p) (by simp)
      have hrow := row_ev (c :: p) (by simp) hg (by omega)
      have e0 : rd_T31 (c :: p) 0 = c := rfl
      have hc0 := hg.lo c (List.mem_cons_self ..)
      have hc1 := hg.hi c (List.mem_cons_self ..)
      generalize hm : rowN (c :: p) = m at *
      have hlen : (c :: p).length = p.length + 1 := rfl
      refine Ev.step (fun k => by simp only [patch_Pack.l0]; rw [if_pos (by simp only [List.length_cons]; omega)]) (Ev.bind hrow ?_)
      have ih2 := ih ((c :: p).drop m) (acc ++ [c.f0, (m : Int)] ++ ((c :: p).take m).map (·.f1)) (by rw [List.length_drop]; omega) (hg.drop m) (by rw [List.length_drop]; omega) (by simp only [List.length_append, List.length_map, List.length_take, List.length_drop, List.length_cons, List.length_nil] at *; omega)
      have e1 : acc ++ packF (n + 1) (c :: p) = acc ++ [c.f0, (m : Int)] ++ ((c :: p).take m).map (·.f1) ++ packF n ((c :: p).drop m) := by
        rw [packF, hm]
        simp
      rw [e1]
      have h1 := pack_l1 (p := c :: p) (y := (c :: p).take m) (n := m) hle (by omega) (by rw [List.length_take]; omega) ((c :: p).take m).length 0 (acc ++ [c.f0, (m : Int)]) (by omega) (by simp only [List.length_append, List.length_take, List.length_cons, List.length_nil] at *; omega) (by rw [List.drop_zero]; exact ih2)
      refine Ev.congr (fun k => ?_) h1
      rw [if_pos (by simp only [List.length_cons]; omega), e0, wrapu_id hc0 (by omega), wrapu_id (n := (m : Int)) (by omega) (by omega)]
      simp only [Option.bind_some]
      rw [if_pos (by simp only [List.length_cons, List.length_nil] at *; omega), if_pos (by omega), if_pos (by omega), Int.toNat_natCast]
      rfl
theorem Pack_ev (p : List S31) (hl : p.length ≤ 1000) (hw : ∀ c ∈ p, c.f0 < 9223372036854775808 ∧ 0 ≤ c.f1 ∧ c.f1 < 18446744073709551616) : Ev (fun k => patch_Pack.f k p) (if rightF (-1) p = true then packF (p.length + 1) p else []) := by
  refine Ev.congr (fun k => by unfold patch_Pack.f; rfl) (Ev.bind (Right_ev p (by omega)) ?_)
  by_cases h : rightF (-1) p = true
  · rw [if_pos h, h]
    have := pack_ev (p.length + 1) p [] (by omega) (Good.of h hw) hl (by simp; omega)
    exact Ev.congr (fun k => if_pos rfl) this
  · rw [if_neg h]
    exact Ev.congr (f := fun _ => some []) (fun k => if_neg h) (Ev.now _)
theorem packF_len : ∀ (n : Nat) (p : List S31), (packF n p).length ≤ 3 * p.length := by
  intro n
  induction n with
  | zero => intro p; simp [packF]
  | succ n ih =>
    intro p
    cases p with
    | nil => simp [packF]
    | cons c p =>
      have hpos := rowN_pos (c :: p)
      have hle := rowN_le (c :: p) (by simp)
      rw [packF]
      have := ih ((c :: p).drop (rowN (c :: p)))
      simp only [List.length_cons, List.length_append, List.length_map, List.length_take, List.length_drop] at *
      omega
/-! ### unpacking -/
def unpF : Nat → Int → List Int → Option (List S31)
  | 0, _, _ => none
  | _ + 1, _, [] => some []
  | _ + 1, _, [_] => none
  | n + 1, next, a :: m :: rest => if 4611686018427387904 < a ∨ m < 1 ∨ (rest.length : Int) < m ∨ a ≤ next then none else (unpF n (a + m) (rest.drop m.toNat)).map (fun q => rowS a (rest.take m.toNat) ++ q)
def unpR (acc : List S31) : Option (List S31) → List S31 × Bool
  | some q => (acc ++ q, true)
  | none => ([], false)
theorem unpR_map (acc row : List S31) (o : Option (List S31)) : unpR acc (o.map (fun q => row ++ q)) = unpR (acc ++ row) o := by
  cases o <;> simp [unpR]
theorem unp_l1 {l y : List Int} {a m : Int} {r : List S31 × Bool} (h0 : 0 ≤ a) (h1 : a ≤ 4611686018427387904) (hm : 1 ≤ m) (hml : 2 + m ≤ l.length) (hl : l.length ≤ 1000000) (hy : y.length ≤ 1000000) : ∀ (d i : Nat) (acc : List S31), i + d = y.length → acc.length + d ≤ 10000000 →
    Ev (fun k => patch_Unpack.l0 k (l.drop (2 + m).toNat) (acc ++ rowS (a + i) (y.drop i)) (a + m)) r → Ev (fun k => patch_Unpack.l1 k l acc a m y (y.length : Int) (i : Int)) r := by
  intro d
  induction d with
  | zero =>
    intro i acc hi _ h
    rw [show y.drop i = [] from List.drop_of_length_le (by omega), rowS, List.append_nil] at h
    refine Ev.step (fun k => ?_) h
    simp only [patch_Unpack.l1]
    rw [if_neg (by omega), wrap_id (n := 2 + m) (by omega) (by omega), if_pos (by omega), if_pos (by omega), wrap_id (n := a + m) (by omega) (by omega)]
  | succ d ih =>
    intro i acc hi ha h
    rw [drop_cons y i (by omega), rowS, List.append_cons, show a + (i : Int) + 1 = a + ((i + 1 : Nat) : Int) by omega] at h
    refine Ev.step (fun k => ?_) (ih (i + 1) (acc ++ [⟨a + i, y[i]'(by omega)⟩]) (by omega) (by simp; omega) h)
    simp only [patch_Unpack.l1]
    rw [if_pos (by omega), if_pos (by omega), if_pos (by omega), if_pos (by omega), rd_nat y i (by omega), wrap_id (n := (i : Int) + 1) (by omega) (by omega), wrap_id (n := a + i) (by omega) (by omega)]
    rfl
theorem unp_bad {l : List Int} {acc : List S31} {next : Int} : Ev (fun k => patch_Unpack.j1 k l acc next true) (([] : List S31), false) :=
  Ev.step (f := fun _ => some (([] : List S31), false)) (fun k => by simp [patch_Unpack.j1]) (Ev.now _)
theorem unp_ev : ∀ (n : Nat) (l : List Int) (acc : List S31) (next : Int), l.length < n → l.length ≤ 1000 → (∀ x ∈ l, 0 ≤ x ∧ x < 18446744073709551616) → acc.length + l.length ≤ 1000000 → Ev (fun k => patch_Unpack.l0 k l acc next) (unpR acc (unpF n next l)) := by
  intro n
  induction n with
  | zero => intro l acc next h; omega
  | succ n ih =>
    intro l acc next hn hl hw ha
    match l, hn, hl, hw, ha with
    | [], _, _, _, _ =>
      rw [unpF]
      refine Ev.step (f := fun _ => some (acc, true)) (fun k => by simp [patch_Unpack.l0]) ?_
      simp only [unpR, List.append_nil]
      exact Ev.now _
    | [x], _, _, _, _ =>
      rw [unpF]
      exact Ev.step (fun k => by simp only [patch_Unpack.l0]; rw [if_neg (by simp), if_pos (by simp)]) unp_bad
    | a :: m :: rest, hn, hl, hw, ha =>
      obtain ⟨ha0, ha1⟩ := hw a (by simp)
      obtain ⟨hm0, hm1⟩ := hw m (by simp)
      have r0 : rd (a :: m :: rest) 0 = a := rfl
      have r1 : rd (a :: m :: rest) 1 = m := rfl
      have hlen : ((a :: m :: rest).length : Int) = (rest.length : Int) + 2 := by simp only [List.length_cons]; omega
      simp only [List.length_cons] at hn hl ha
      by_cases c3 : rest = []
      · subst c3
        have e : unpF (n + 1) next [a, m] = none := by
          rw [unpF, if_pos]
          by_cases h : m < 1
          · exact .inr (.inl h)
          · exact .inr (.inr (.inl (by simp; omega)))
        rw [e]
        exact Ev.step (fun k => by simp only [patch_Unpack.l0]; rw [if_neg (by simp), if_pos (by simp)]) unp_bad
      · have hrest : 0 < rest.length := List.length_pos_iff.2 c3
        by_cases cbad : 4611686018427387904 < a ∨ m < 1 ∨ (rest.length : Int) < m
        · have e : unpF (n + 1) next (a :: m :: rest) = none := by
            rw [unpF, if_pos]
            rcases cbad with h | h | h
            · exact .inl h
            · exact .inr (.inl h)
            · exact .inr (.inr (.inl h))
          rw [e]
          refine Ev.step (fun k => ?_) (unp_bad (l := a :: m :: rest) (acc := acc) (next := next))
          simp only [patch_Unpack.l0]
          rw [hlen, if_neg (by omega), if_neg (by omega), if_pos (by omega), r0, r1]
          by_cases h1 : a > 4611686018427387904
          · rw [if_pos h1]
          · rw [if_neg h1, if_pos (by omega)]
            by_cases h2 : m < 1
            · rw [if_pos h2]
            · rw [if_neg h2, wrap_id (n := (rest.length : Int) + 2 - 2) (by omega) (by omega), wrapu_id (by omega) (by omega), decide_eq_true (by omega)]
        · have step0 : ∀ k, patch_Unpack.l0 (k + 1) (a :: m :: rest) acc next = patch_Unpack.j1 k (a :: m :: rest) acc next false := by
            intro k
            simp only [patch_Unpack.l0]
            rw [hlen, if_neg (by omega), if_neg (by omega), if_pos (by omega), r0, r1, if_neg (by omega), if_pos (by omega), if_neg (by omega), wrap_id (n := (rest.length : Int) + 2 - 2) (by omega) (by omega), wrapu_id (by omega) (by omega), decide_eq_false (by omega)]
          refine Ev.step step0 ?_
          by_cases cn : a ≤ next
          · have e : unpF (n + 1) next (a :: m :: rest) = none := by rw [unpF, if_pos (.inr (.inr (.inr cn)))]
            rw [e]
            refine Ev.step (f := fun _ => some (([] : List S31), false)) (fun k => ?_) (Ev.now _)
            simp only [patch_Unpack.j1]
            rw [if_neg (by decide), hlen, if_pos (by omega), if_pos (by omega), r0, wrap_id (n := a) (by omega) (by omega), if_pos cn]
          · have e : unpF (n + 1) next (a :: m :: rest) = (unpF n (a + m) (rest.drop m.toNat)).map (fun q => rowS a (rest.take m.toNat) ++ q) := by rw [unpF, if_neg (by omega)]
            rw [e, unpR_map]
            have hy : ((a :: m :: rest).take (2 + m).toNat).drop 2 = rest.take m.toNat := by
              rw [show (2 + m).toNat = m.toNat + 2 by omega]
              rfl
            have hd : (a :: m :: rest).drop (2 + m).toNat = rest.drop m.toNat := by
              rw [show (2 + m).toNat = m.toNat + 2 by omega]
              rfl
            have hyl : (rest.take m.toNat).length = m.toNat := by rw [List.length_take]; omega
            have ih2 := ih (rest.drop m.toNat) (acc ++ rowS a (rest.take m.toNat)) (a + m) (by rw [List.length_drop]; omega) (by rw [List.length_drop]; omega) (fun x hx => hw x (List.mem_cons_of_mem _ (List.mem_cons_of_mem _ (List.mem_of_mem_drop hx)))) (by rw [List.length_append, rowS_len, hyl, List.length_drop]; omega)
            have h1 := unp_l1 (l := a :: m :: rest) (y := rest.take m.toNat) (a := a) (m := m) ha0 (by omega) (by omega) (by omega) (by simp only [List.length_cons]; omega) (by rw [hyl]; omega) (rest.take m.toNat).length 0 acc (by omega) (by rw [hyl]; omega) (by rw [hd, List.drop_zero, show a + ((0 : Nat) : Int) = a by omega]; exact ih2)
            refine Ev.step (fun k => ?_) h1
            simp only [patch_Unpack.j1]
            rw [if_neg (by decide), hlen, if_pos (by omega), if_pos (by omega), r0, r1, wrap_id (n := a) (by omega) (by omega), if_neg cn, wrap_id (n := m) (by omega) (by omega), wrap_id (n := 2 + m) (by omega) (by omega), if_pos (by omega), if_pos (by omega), hy]
            simp only [Option.bind_some]
            rfl
theorem Unpack_ev (l : List Int) (hl : l.length ≤ 1000) (hw : ∀ x ∈ l, 0 ≤ x ∧ x < 18446744073709551616) : Ev (fun k => patch_Unpack.f k l) (unpR [] (unpF (l.length + 1) (-1) l)) :=
  Ev.congr (fun k => by unfold patch_Unpack.f; rfl) (unp_ev (l.length + 1) l [] (-1) (by omega) hl hw (by simp; omega))

/-! ### there and back -/
theorem pack_unp : ∀ (n : Nat) (l : List Int) (next : Int) (q : List S31), (∀ x ∈ l, 0 ≤ x ∧ x < 18446744073709551616) → l.length ≤ 1000 → unpF n next l = some q →
    Good q ∧ (∀ c ∈ q, next < c.f0) ∧ q.length ≤ l.length ∧ ∀ m, q.length < m → packF m q = l := by
  intro n
  induction n with
  | zero => intro l next q _ _ h; cases h
  | succ n ih =>
    intro l next q hw hl h
    match l, hw, hl, h with
    | [], _, _, h =>
      rw [unpF] at h
      obtain rfl := Option.some.inj h
      exact ⟨⟨by simp, by simp, by simp, by simp, List.Pairwise.nil⟩, by simp, Nat.le_refl _, fun m hm => by cases m <;> rfl⟩
    | [x], _, _, h => rw [unpF] at h; cases h
    | a :: m :: rest, hw, hl, h =>
      rw [unpF] at h
      by_cases c : 4611686018427387904 < a ∨ m < 1 ∨ (rest.length : Int) < m ∨ a ≤ next
      · rw [if_pos c] at h; cases h
      · rw [if_neg c] at h
        obtain ⟨q', hq', rfl⟩ := Option.map_eq_some_iff.1 h
        obtain ⟨ha0, ha1⟩ := hw a (by simp)
        simp only [List.length_cons] at hl
        obtain ⟨g, gx, gl, gp⟩ := ih (rest.drop m.toNat) (a + m) q' (fun x hx => hw x (List.mem_cons_of_mem _ (List.mem_cons_of_mem _ (List.mem_of_mem_drop hx)))) (by rw [List.length_drop]; omega) hq'
        have hyl : (rest.take m.toNat).length = m.toNat := by rw [List.length_take]; omega
        have hyw : ∀ x ∈ rest.take m.toNat, 0 ≤ x ∧ x < 18446744073709551616 := fun x hx => hw x (List.mem_cons_of_mem _ (List.mem_cons_of_mem _ (List.mem_of_mem_take hx)))
        generalize hy : rest.take m.toNat = y at *
        have row : ∀ (y : List Int) (b : Int), (∀ x ∈ y, 0 ≤ x ∧ x < 18446744073709551616) → (∀ c ∈ rowS b y, b ≤ c.f0 ∧ c.f0 < b + (y.length : Nat) ∧ 0 ≤ c.f1 ∧ c.f1 < 18446744073709551616) ∧ (rowS b y).Pairwise (fun a b => a.f0 < b.f0) := by
          intro y
          induction y with
          | nil => intro b _; exact ⟨by simp [rowS], List.Pairwise.nil⟩
          | cons v y ihy =>
            intro b hv
            obtain ⟨i1, i2⟩ := ihy (b + 1) (fun x hx => hv x (List.mem_cons_of_mem _ hx))
            have hv0 := hv v (List.mem_cons_self ..)
            refine ⟨fun c hc => ?_, List.Pairwise.cons (fun c hc => ?_) i2⟩
            · rcases List.mem_cons.1 hc with rfl | hc
              · simp only [List.length_cons]; exact ⟨Int.le_refl _, by omega, hv0.1, hv0.2⟩
              · have := i1 c hc; simp only [List.length_cons]; omega
            · have := i1 c hc; show b < c.f0; omega
        obtain ⟨r1, r2⟩ := row y a hyw
        have hml : (y.length : Int) = m := by rw [hyl]; omega
        have hne : y ≠ [] := by intro e; rw [e] at hml; simp at hml; omega
        refine ⟨⟨fun c hc => ?_, fun c hc => ?_, fun c hc => ?_, fun c hc => ?_, ?_⟩, fun c hc => ?_, ?_, fun k hk => ?_⟩
        · rcases List.mem_append.1 hc with hc | hc
          · have := r1 c hc; omega
          · exact g.lo c hc
        · rcases List.mem_append.1 hc with hc | hc
          · have := r1 c hc; omega
          · exact g.hi c hc
        · rcases List.mem_append.1 hc with hc | hc
          · exact (r1 c hc).2.2.1
          · exact g.vlo c hc
        · rcases List.mem_append.1 hc with hc | hc
          · exact (r1 c hc).2.2.2
          · exact g.vhi c hc
        · exact List.pairwise_append.2 ⟨r2, g.up, fun c hc d hd => by have := r1 c hc; have := gx d hd; omega⟩
        · rcases List.mem_append.1 hc with hc | hc
          · have := r1 c hc; omega
          · have := gx c hc; omega
        · rw [List.length_append, rowS_len, hyl]
          rw [List.length_drop] at gl
          simp only [List.length_cons]
          omega
        · obtain ⟨k, rfl⟩ : ∃ j, k = j + 1 := ⟨k - 1, by omega⟩
          have hN : rowN (rowS a y ++ q') = y.length := rowN_rowS y a q' hne (fun c hc => by have := gx c hc; omega)
          obtain ⟨v, ys, rfl⟩ : ∃ v ys, y = v :: ys := by cases y with | nil => exact absurd rfl hne | cons v ys => exact ⟨v, ys, rfl⟩
          have e1 : rowS a (v :: ys) ++ q' = (⟨a, v⟩ : S31) :: (rowS (a + 1) ys ++ q') := rfl
          rw [e1] at hN hk ⊢
          rw [packF, hN, ← e1, List.take_left' (rowS_len _ _), List.drop_left' (rowS_len _ _)]
          have e2 : ∀ (vs : List Int) (b : Int), (rowS b vs).map (·.f1) = vs := by
            intro vs
            induction vs with
            | nil => intro b; rfl
            | cons w ws ihw => intro b; rw [rowS, List.map_cons, ihw]
          rw [e2, gp k (by simp only [List.length_cons, List.length_append, rowS_len] at hk; omega), hml, ← hy, List.take_append_drop]
theorem mn_len (n m : Nat) : mn (n : Int) (m : Int) = ((min n m : Nat) : Int) := by unfold mn; split <;> omega
end Go.Proofs.Ytldlacphokbgcaa.Pure
