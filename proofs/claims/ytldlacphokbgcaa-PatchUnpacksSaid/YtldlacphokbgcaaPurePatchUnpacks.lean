/- What is packed comes back; what is unpacked is packed as just these words. -/
import Derived.Test.YtldlacphokbgcaaPureBase
namespace Go.Proofs.Ytldlacphokbgcaa.Pure
open Go.RowKit Go.Proofs.Ytldlacphokbgcaa.Print Go.Proofs.YtldlacphokbgcaaW.PrintWords Go.Proofs.YtldlacphokbgcaaW.PrintLast Go.Proofs.YtldlacphokbgcaaW.PrintMore

/-! ### packing -/
def packF : Nat → List S31 → List Int
  | 0, _ => []
  | _ + 1, [] => []
  | n + 1, c :: p => c.f0 :: ((rowN (c :: p) : Nat) : Int) :: (((c :: p).take (rowN (c :: p))).map (·.f1) ++ packF n ((c :: p).drop (rowN (c :: p))))
theorem pack_l1 {p y : List S31} {n : Nat} {r : List Int} (hn : n ≤ p.length) (_hp : p.length ≤ 1000000) (hy : y.length ≤ 1000000) : ∀ (d i : Nat) (acc : List Int), i + d = y.length → acc.length + d ≤ 10000000 →
    Ev (fun k => patch_Pack.l0 k (p.drop n) (acc ++ (y.drop i).map (·.f1))) r → Ev (fun k => patch_Pack.l1 k p acc ((n : Nat) : Int) y (y.length : Int) (i : Int)) r := by
  intro d
  induction d with
  | zero =>
    intro i acc hi _ h
    rw [show y.drop i = [] from List.drop_of_length_le (by omega), List.map_nil, List.append_nil] at h
    refine Ev.step (fun k => ?_) h
    simp only [patch_Pack.l1]
    rw [if_neg (by omega), if_pos (by omega), if_pos (by omega), Int.toNat_natCast]
  | succ d ih =>
    intro i acc hi ha h
    rw [drop_cons y i (by omega), List.map_cons, List.append_cons] at h
    refine Ev.step (fun k => ?_) (ih (i + 1) (acc ++ [(y[i]'(by omega)).f1]) (by omega) (by simp; omega) h)
    simp only [patch_Pack.l1]
    rw [if_pos (by omega), if_pos (by omega), if_pos (by omega), if_pos (by omega), rdT y i (by omega), wrap_id (by omega) (by omega)]
    rfl
theorem pack_ev : ∀ (n : Nat) (p : List S31) (acc : List Int), p.length < n → Good p → p.length ≤ 1000 → acc.length + 3 * p.length ≤ 1000000 → Ev (fun k => patch_Pack.l0 k p acc) (acc ++ packF n p) := by
  intro n
  induction n with
  | zero => intro p acc h; omega
  | succ n ih =>
    intro p acc hn hg hl ha
    cases p with
    | nil =>
      rw [packF, List.append_nil]
      exact Ev.step (f := fun _ => some acc) (fun k => by simp only [patch_Pack.l0]; rw [if_neg (by decide)]) (Ev.now _)
    | cons c p =>
      have hpos := rowN_pos (c :: p)
      have hle := rowN_le (c :: p) (by simp)
      have hrow := row_ev (c :: p) (by simp) hg (by omega)
      have e0 : rd_T31 (c :: p) 0 = c := rfl
      have hc0 := hg.lo c (List.mem_cons_self ..)
      have hc1 := hg.hi c (List.mem_cons_self ..)
      generalize hm : rowN (c :: p) = m at *
      have hlen : (c :: p).length = p.length + 1 := rfl
      refine Ev.step (fun k => by simp only [patch_Pack.l0]; rw [if_pos (by simp only [List.length_cons]; omega)]) (Ev.bind hrow ?_)
      have ih2 := ih ((c :: p).drop m) (acc ++ [c.f0, (m : Int)] ++ ((c :: p).take m).map (·.f1)) (by rw [List.length_drop]; omega) (hg.drop m) (by rw [List.length_drop]; omega) (by simp only [List.length_append, List.length_map, List.length_take, List.length_drop, List.length_cons, List.length_nil] at *; omega)
      have e1 : acc ++ packF (n + 1) (c :: p) = acc ++ [c.f0, (m : Int)] ++ ((c :: p).take m).map (·.f1) ++ packF n ((c :: p).drop m) := by
        rw [packF, hm]
        simp
      rw [e1]
      have h1 := pack_l1 (p := c :: p) (y := (c :: p).take m) (n := m) hle (by omega) (by rw [List.length_take]; omega) ((c :: p).take m).length 0 (acc ++ [c.f0, (m : Int)]) (by omega) (by simp only [List.length_append, List.length_take, List.length_cons, List.length_nil] at *; omega) (by rw [List.drop_zero]; exact ih2)
      refine Ev.congr (fun k => ?_) h1
      rw [if_pos (by simp only [List.length_cons]; omega), e0, wrapu_id hc0 (by omega), wrapu_id (n := (m : Int)) (by omega) (by omega)]
      simp only [Option.bind_some]
      rw [if_pos (by simp only [List.length_cons, List.length_nil] at *; omega), if_pos (by omega), if_pos (by omega), Int.toNat_natCast]
      rfl
theorem Pack_ev (p : List S31) (hl : p.length ≤ 1000) (hw : ∀ c ∈ p, c.f0 < 9223372036854775808 ∧ 0 ≤ c.f1 ∧ c.f1 < 18446744073709551616) : Ev (fun k => patch_Pack.f k p) (if rightF (-1) p = true then packF (p.length + 1) p else []) := by
  refine Ev.congr (fun k => by unfold patch_Pack.f; rfl) (Ev.bind (Right_ev p (by omega)) ?_)
  by_cases h : rightF (-1) p = true
  · rw [if_pos h, h]
    have := pack_ev (p.length + 1) p [] (by omega) (Good.of h hw) hl (by simp; omega)
    exact Ev.congr (fun k => if_pos rfl) this
  · rw [if_neg h]
    exact Ev.congr (f := fun _ => some []) (fun k => if_neg h) (Ev.now _)
theorem packF_len : ∀ (n : Nat) (p : List S31), (packF n p).length ≤ 3 * p.length := by
  intro n
  induction n with
  | zero => intro p; simp [packF]
  | succ n ih =>
    intro p
    cases p with
    | nil => simp [packF]
    | cons c p =>
      have hpos := rowN_pos (c :: p)
      have hle := rowN_le (c :: p) (by simp)
      rw [packF]
      have := ih ((c :: p).drop (rowN (c :: p)))
      simp only [List.length_cons, List.length_append, List.length_map, List.length_take, List.length_drop] at *
      omega
theorem packF_wf : ∀ (n : Nat) (p : List S31), Good p → p.length ≤ 1000 → ∀ x ∈ packF n p, 0 ≤ x ∧ x < 18446744073709551616 := by
  intro n
  induction n with
  | zero => intro p _ _ x hx; cases hx
  | succ n ih =>
    intro p hg hl x hx
    cases p with
    | nil => cases hx
    | cons c p =>
      have hle := rowN_le (c :: p) (by simp)
      rw [packF] at hx
      rcases List.mem_cons.1 hx with rfl | hx
      · have h0 := hg.lo c (List.mem_cons_self ..); have h1 := hg.hi c (List.mem_cons_self ..); omega
      · rcases List.mem_cons.1 hx with rfl | hx
        · omega
        · rcases List.mem_append.1 hx with hx | hx
          · obtain ⟨d, hd, rfl⟩ := List.mem_map.1 hx
            have hd := List.mem_of_mem_take hd
            exact ⟨hg.vlo d hd, hg.vhi d hd⟩
          · exact ih _ (hg.drop _) (by rw [List.length_drop]; omega) x hx

/-! ### unpacking -/
def unpF : Nat → Int → List Int → Option (List S31)
  | 0, _, _ => none
  | _ + 1, _, [] => some []
  | _ + 1, _, [_] => none
  | n + 1, next, a :: m :: rest => if 4611686018427387904 < a ∨ m < 1 ∨ (rest.length : Int) < m ∨ a ≤ next then none else (unpF n (a + m) (rest.drop m.toNat)).map (fun q => rowS a (rest.take m.toNat) ++ q)
def unpR (acc : List S31) : Option (List S31) → List S31 × Bool
  | some q => (acc ++ q, true)
  | none => ([], false)
theorem unpR_map (acc row : List S31) (o : Option (List S31)) : unpR acc (o.map (fun q => row ++ q)) = unpR (acc ++ row) o := by
  cases o <;> simp [unpR]
theorem unp_l1 {l y : List Int} {a m : Int} {r : List S31 × Bool} (h0 : 0 ≤ a) (h1 : a ≤ 4611686018427387904) (hm : 1 ≤ m) (hml : 2 + m ≤ l.length) (hl : l.length ≤ 1000000) (hy : y.length ≤ 1000000) : ∀ (d i : Nat) (acc : List S31), i + d = y.length → acc.length + d ≤ 10000000 →
    Ev (fun k => patch_Unpack.l0 k (l.drop (2 + m).toNat) (acc ++ rowS (a + i) (y.drop i)) (a + m)) r → Ev (fun k => patch_Unpack.l1 k l acc a m y (y.length : Int) (i : Int)) r := by
  intro d
  induction d with
  | zero =>
    intro i acc hi _ h
    rw [show y.drop i = [] from List.drop_of_length_le (by omega), rowS, List.append_nil] at h
    refine Ev.step (fun k => ?_) h
    simp only [patch_Unpack.l1]
    rw [if_neg (by omega), wrap_id (n := 2 + m) (by omega) (by omega), if_pos (by omega), if_pos (by omega), wrap_id (n := a + m) (by omega) (by omega)]
  | succ d ih =>
    intro i acc hi ha h
    rw [drop_cons y i (by omega), rowS, List.append_cons, show a + (i : Int) + 1 = a + ((i + 1 : Nat) : Int) by omega] at h
    refine Ev.step (fun k => ?_) (ih (i + 1) (acc ++ [⟨a + i, y[i]'(by omega)⟩]) (by omega) (by simp; omega) h)
    simp only [patch_Unpack.l1]
    rw [if_pos (by omega), if_pos (by omega), if_pos (by omega), if_pos (by omega), rd_nat y i (by omega), wrap_id (n := (i : Int) + 1) (by omega) (by omega), wrap_id (n := a + i) (by omega) (by omega)]
    rfl
theorem unp_bad {l : List Int} {acc : List S31} {next : Int} : Ev (fun k => patch_Unpack.j1 k l acc next true) (([] : List S31), false) :=
  Ev.step (f := fun _ => some (([] : List S31), false)) (fun k => by simp [patch_Unpack.j1]) (Ev.now _)
theorem unp_ev : ∀ (n : Nat) (l : List Int) (acc : List S31) (next : Int), l.length < n → l.length ≤ 1000 → (∀ x ∈ l, 0 ≤ x ∧ x < 18446744073709551616) → acc.length + l.length ≤ 1000000 → Ev (fun k => patch_Unpack.l0 k l acc next) (unpR acc (unpF n next l)) := by
  intro n
  induction n with
  | zero => intro l acc next h; omega
  | succ n ih =>
    intro l acc next hn hl hw ha
    match l, hn, hl, hw, ha with
    | [], _, _, _, _ =>
      rw [unpF]
      refine Ev.step (f := fun _ => some (acc, true)) (fun k => by simp [patch_Unpack.l0]) ?_
      simp only [unpR, List.append_nil]
      exact Ev.now _
    | [x], _, _, _, _ =>
      rw [unpF]
      exact Ev.step (fun k => by simp only [patch_Unpack.l0]; rw [if_neg (by simp), if_pos (by simp)]) unp_bad
    | a :: m :: rest, hn, hl, hw, ha =>
      obtain ⟨ha0, ha1⟩ := hw a (by simp)
      obtain ⟨hm0, hm1⟩ := hw m (by simp)
      have r0 : rd (a :: m :: rest) 0 = a := rfl
      have r1 : rd (a :: m :: rest) 1 = m := rfl
      have hlen : ((a :: m :: rest).length : Int) = (rest.length : Int) + 2 := by simp only [List.length_cons]; omega
      simp only [List.length_cons] at hn hl ha
      by_cases c3 : rest = []
      · subst c3
        have e : unpF (n + 1) next [a, m] = none := by
          rw [unpF, if_pos]
          by_cases h : m < 1
          · exact .inr (.inl h)
          · exact .inr (.inr (.inl (by simp; omega)))
        rw [e]
        exact Ev.step (fun k => by simp only [patch_Unpack.l0]; rw [if_neg (by simp), if_pos (by simp)]) unp_bad
      · have hrest : 0 < rest.length := List.length_pos_iff.2 c3
        by_cases cbad : 4611686018427387904 < a ∨ m < 1 ∨ (rest.length : Int) < m
        · have e : unpF (n + 1) next (a :: m :: rest) = none := by
            rw [unpF, if_pos]
            rcases cbad with h | h | h
            · exact .inl h
            · exact .inr (.inl h)
            · exact .inr (.inr (.inl h))
          rw [e]
          refine Ev.step (fun k => ?_) (unp_bad (l := a :: m :: rest) (acc := acc) (next := next))
          simp only [patch_Unpack.l0]
          rw [hlen, if_neg (by omega), if_neg (by omega), if_pos (by omega), r0, r1]
          by_cases h1 : a > 4611686018427387904
          · rw [if_pos h1]
          · rw [if_neg h1, if_pos (by omega)]
            by_cases h2 : m < 1
            · rw [if_pos h2]
            · rw [if_neg h2, wrap_id (n := (rest.length : Int) + 2 - 2) (by omega) (by omega), wrapu_id (by omega) (by omega), decide_eq_true (by omega)]
        · have step0 : ∀ k, patch_Unpack.l0 (k + 1) (a :: m :: rest) acc next = patch_Unpack.j1 k (a :: m :: rest) acc next false := by
            intro k
            simp only [patch_Unpack.l0]
            rw [hlen, if_neg (by omega), if_neg (by omega), if_pos (by omega), r0, r1, if_neg (by omega), if_pos (by omega), if_neg (by omega), wrap_id (n := (rest.length : Int) + 2 - 2) (by omega) (by omega), wrapu_id (by omega) (by omega), decide_eq_false (by omega)]
          refine Ev.step step0 ?_
          by_cases cn : a ≤ next
          · have e : unpF (n + 1) next (a :: m :: rest) = none := by rw [unpF, if_pos (.inr (.inr (.inr cn)))]
            rw [e]
            refine Ev.step (f := fun _ => some (([] : List S31), false)) (fun k => ?_) (Ev.now _)
            simp only [patch_Unpack.j1]
            rw [if_neg (by decide), hlen, if_pos (by omega), if_pos (by omega), r0, wrap_id (n := a) (by omega) (by omega), if_pos cn]
          · have e : unpF (n + 1) next (a :: m :: rest) = (unpF n (a + m) (rest.drop m.toNat)).map (fun q => rowS a (rest.take m.toNat) ++ q) := by rw [unpF, if_neg (by omega)]
            rw [e, unpR_map]
            have hy : ((a :: m :: rest).take (2 + m).toNat).drop 2 = rest.take m.toNat := by
              rw [show (2 + m).toNat = m.toNat + 2 by omega]
              rfl
            have hd : (a :: m :: rest).drop (2 + m).toNat = rest.drop m.toNat := by
              rw [show (2 + m).toNat = m.toNat + 2 by omega]
              rfl
            have hyl : (rest.take m.toNat).length = m.toNat := by rw [List.length_take]; omega
            have ih2 := ih (rest.drop m.toNat) (acc ++ rowS a (rest.take m.toNat)) (a + m) (by rw [List.length_drop]; omega) (by rw [List.length_drop]; omega) (fun x hx => hw x (List.mem_cons_of_mem _ (List.mem_cons_of_mem _ (List.mem_of_mem_drop hx)))) (by rw [List.length_append, rowS_len, hyl, List.length_drop]; omega)
            have h1 := unp_l1 (l := a :: m :: rest) (y := rest.take m.toNat) (a := a) (m := m) ha0 (by omega) (by omega) (by omega) (by simp only [List.length_cons]; omega) (by rw [hyl]; omega) (rest.take m.toNat).length 0 acc (by omega) (by rw [hyl]; omega) (by rw [hd, List.drop_zero, show a + ((0 : Nat) : Int) = a by omega]; exact ih2)
            refine Ev.step (fun k => ?_) h1
            simp only [patch_Unpack.j1]
            rw [if_neg (by decide), hlen, if_pos (by omega), if_pos (by omega), r0, r1, wrap_id (n := a) (by omega) (by omega), if_neg cn, wrap_id (n := m) (by omega) (by omega), wrap_id (n := 2 + m) (by omega) (by omega), if_pos (by omega), if_pos (by omega), hy]
            simp only [Option.bind_some]
            rfl
theorem Unpack_ev (l : List Int) (hl : l.length ≤ 1000) (hw : ∀ x ∈ l, 0 ≤ x ∧ x < 18446744073709551616) : Ev (fun k => patch_Unpack.f k l) (unpR [] (unpF (l.length + 1) (-1) l)) :=
  Ev.congr (fun k => by unfold patch_Unpack.f; rfl) (unp_ev (l.length + 1) l [] (-1) (by omega) hl hw (by simp; omega))

/-! ### there and back -/
theorem unp_pack : ∀ (n m : Nat) (p : List S31) (next : Int), p.length < n → (packF n p).length < m → Good p → (∀ c ∈ p, c.f0 ≤ 1099511627776) → (∀ c ∈ p, next < c.f0) → unpF m next (packF n p) = some p := by
  intro n
  induction n with
  | zero => intro m p next h; omega
  | succ n ih =>
    intro m p next hn hm hg hs hx
    obtain ⟨m, rfl⟩ : ∃ j, m = j + 1 := ⟨m - 1, by omega⟩
    cases p with
    | nil => rw [packF, unpF]
    | cons c p =>
      have hpos := rowN_pos (c :: p)
      have hle := rowN_le (c :: p) (by simp)
      obtain ⟨s1, s2⟩ := rowN_spec p c hg.up
      have hc := hs c (List.mem_cons_self ..)
      have hc2 := hx c (List.mem_cons_self ..)
      rw [packF] at hm ⊢
      generalize hr : rowN (c :: p) = r at *
      have hv : (((c :: p).take r).map (·.f1)).length = r := by rw [List.length_map, List.length_take]; omega
      rw [unpF, if_neg (by rw [List.length_append, hv]; omega), Int.toNat_natCast, List.drop_left' hv, List.take_left' hv]
      have ih2 := ih m ((c :: p).drop r) (c.f0 + r) (by rw [List.length_drop]; omega) (by simp only [List.length_cons, List.length_append] at hm; omega) (hg.drop r) (fun d hd => hs d (List.mem_of_mem_drop hd)) s2
      rw [ih2, Option.map_some, ← s1, List.take_append_drop]
theorem pack_unp : ∀ (n : Nat) (l : List Int) (next : Int) (q : List S31), (∀ x ∈ l, 0 ≤ x ∧ x < 18446744073709551616) → l.length ≤ 1000 → unpF n next l = some q →
    Good q ∧ (∀ c ∈ q, next < c.f0) ∧ q.length ≤ l.length ∧ ∀ m, q.length < m → packF m q = l := by
  intro n
  induction n with
  | zero => intro l next q _ _ h; cases h
  | succ n ih =>
    intro l next q hw hl h
    match l, hw, hl, h with
    | [], _, _, h =>
      rw [unpF] at h
      obtain rfl := Option.some.inj h
      exact ⟨⟨by simp, by simp, by simp, by simp, List.Pairwise.nil⟩, by simp, Nat.le_refl _, fun m hm => by cases m <;> rfl⟩
    | [x], _, _, h => rw [unpF] at h; cases h
    | a :: m :: rest, hw, hl, h =>
      rw [unpF] at h
      by_cases c : 4611686018427387904 < a ∨ m < 1 ∨ (rest.length : Int) < m ∨ a ≤ next
      · rw [if_pos c] at h; cases h
      · rw [if_neg c] at h
        obtain ⟨q', hq', rfl⟩ := Option.map_eq_some_iff.1 h
        obtain ⟨ha0, ha1⟩ := hw a (by simp)
        simp only [List.length_cons] at hl
        obtain ⟨g, gx, gl, gp⟩ := ih (rest.drop m.toNat) (a + m) q' (fun x hx => hw x (List.mem_cons_of_mem _ (List.mem_cons_of_mem _ (List.mem_of_mem_drop hx)))) (by rw [List.length_drop]; omega) hq'
        have hyl : (rest.take m.toNat).length = m.toNat := by rw [List.length_take]; omega
        have hyw : ∀ x ∈ rest.take m.toNat, 0 ≤ x ∧ x < 18446744073709551616 := fun x hx => hw x (List.mem_cons_of_mem _ (List.mem_cons_of_mem _ (List.mem_of_mem_take hx)))
        generalize hy : rest.take m.toNat = y at *
        have row : ∀ (y : List Int) (b : Int), (∀ x ∈ y, 0 ≤ x ∧ x < 18446744073709551616) → (∀ c ∈ rowS b y, b ≤ c.f0 ∧ c.f0 < b + (y.length : Nat) ∧ 0 ≤ c.f1 ∧ c.f1 < 18446744073709551616) ∧ (rowS b y).Pairwise (fun a b => a.f0 < b.f0) := by
          intro y
          induction y with
          | nil => intro b _; exact ⟨by simp [rowS], List.Pairwise.nil⟩
          | cons v y ihy =>
            intro b hv
            obtain ⟨i1, i2⟩ := ihy (b + 1) (fun x hx => hv x (List.mem_cons_of_mem _ hx))
            have hv0 := hv v (List.mem_cons_self ..)
            refine ⟨fun c hc => ?_, List.Pairwise.cons (fun c hc => ?_) i2⟩
            · rcases List.mem_cons.1 hc with rfl | hc
              · simp only [List.length_cons]; exact ⟨Int.le_refl _, by omega, hv0.1, hv0.2⟩
              · have := i1 c hc; simp only [List.length_cons]; omega
            · have := i1 c hc; show b < c.f0; omega
        obtain ⟨r1, r2⟩ := row y a hyw
        have hml : (y.length : Int) = m := by rw [hyl]; omega
        have hne : y ≠ [] := by intro e; rw [e] at hml; simp at hml; omega
        refine ⟨⟨fun c hc => ?_, fun c hc => ?_, fun c hc => ?_, fun c hc => ?_, ?_⟩, fun c hc => ?_, ?_, fun k hk => ?_⟩
        · rcases List.mem_append.1 hc with hc | hc
          · have := r1 c hc; omega
          · exact g.lo c hc
        · rcases List.mem_append.1 hc with hc | hc
          · have := r1 c hc; omega
          · exact g.hi c hc
        · rcases List.mem_append.1 hc with hc | hc
          · exact (r1 c hc).2.2.1
          · exact g.vlo c hc
        · rcases List.mem_append.1 hc with hc | hc
          · exact (r1 c hc).2.2.2
          · exact g.vhi c hc
        · exact List.pairwise_append.2 ⟨r2, g.up, fun c hc d hd => by have := r1 c hc; have := gx d hd; omega⟩
        · rcases List.mem_append.1 hc with hc | hc
          · have := r1 c hc; omega
          · have := gx c hc; omega
        · rw [List.length_append, rowS_len, hyl]
          rw [List.length_drop] at gl
          simp only [List.length_cons]
          omega
        · obtain ⟨k, rfl⟩ : ∃ j, k = j + 1 := ⟨k - 1, by omega⟩
          have hN : rowN (rowS a y ++ q') = y.length := rowN_rowS y a q' hne (fun c hc => by have := gx c hc; omega)
          obtain ⟨v, ys, rfl⟩ : ∃ v ys, y = v :: ys := by cases y with | nil => exact absurd rfl hne | cons v ys => exact ⟨v, ys, rfl⟩
          have e1 : rowS a (v :: ys) ++ q' = (⟨a, v⟩ : S31) :: (rowS (a + 1) ys ++ q') := rfl
          rw [e1] at hN hk ⊢
          rw [packF, hN, ← e1, List.take_left' (rowS_len _ _), List.drop_left' (rowS_len _ _)]
          have e2 : ∀ (vs : List Int) (b : Int), (rowS b vs).map (·.f1) = vs := by
            intro vs
            induction vs with
            | nil => intro b; rfl
            | cons w ws ihw => intro b; rw [rowS, List.map_cons, ihw]
          rw [e2, gp k (by simp only [List.length_cons, List.length_append, rowS_len] at hk; omega), hml, ← hy, List.take_append_drop]
theorem mn_len (n m : Nat) : mn (n : Int) (m : Int) = ((min n m : Nat) : Int) := by unfold mn; split <;> omega
theorem early_f (p : List S31) : escritoirelaw23_early.f p = some (p.take 60) := by
  unfold escritoirelaw23_early.f
  rw [show (60 : Int) = ((60 : Nat) : Int) from rfl, mn_len, if_pos (by omega), if_pos (by omega), Int.toNat_natCast, Nat.min_comm, ← List.take_eq_take_min]
theorem j1_ev (l : List Int) (hl : l.length ≤ 100) (hw : ∀ x ∈ l, 0 ≤ x ∧ x < 18446744073709551616) : Ev (fun k => escritoirelaw23_PatchUnpacks.j1 k l false) true := by
  refine Ev.step (fun k => by simp only [escritoirelaw23_PatchUnpacks.j1]; rw [if_neg (by decide)]) (Ev.bind (Unpack_ev l (by omega) hw) ?_)
  cases h : unpF (l.length + 1) (-1) l with
  | none => exact Ev.congr (f := fun _ => some true) (fun k => by simp [unpR]) (Ev.now _)
  | some q =>
    obtain ⟨g, gx, gl, gp⟩ := pack_unp _ l _ q hw (by omega) h
    have hR := Right_ev q (by omega)
    rw [g.right] at hR
    have hP := Pack_ev q (by omega) (fun c hc => ⟨g.hi c hc, g.vlo c hc, g.vhi c hc⟩)
    rw [if_pos g.right, gp _ (by omega)] at hP
    have hS := Same_ev l l (by omega)
    rw [decide_eq_true rfl] at hS
    refine Ev.congr (f := fun k => (patch_Right.f k q).bind fun t225 => (if t225 = true then ((patch_Pack.f k q).bind fun t226 => ((escritoireref01_Same.f k t226 l).bind fun t229 => (some t229))) else (some false))) (fun k => by simp [unpR]) (Ev.bind hR ?_)
    refine Ev.congr (fun k => if_pos rfl) (Ev.bind hP (Ev.bind hS ?_))
    exact Ev.now _
theorem unpR_of (p : List S31) : unpR [] (some p) = (p, true) := by simp [unpR]
theorem PatchUnpacks : escritoirelaw23_PatchUnpacks.Pure := by
  intro l0 l1 ⟨_, _, hl0⟩ ⟨_, _, hl1⟩
  refine Ev.rounds (r := true) (Ev.congr (fun k => by unfold escritoirelaw23_PatchUnpacks.f; rfl) (Ev.bind lives_ev ?_))
  have hw : ∀ x ∈ l1.take 100, 0 ≤ x ∧ x < 18446744073709551616 := fun x hx => wfu64 (hl1 x (List.mem_of_mem_take hx))
  have hp : ∀ c ∈ l0.take 60, c.f0 < 9223372036854775808 ∧ 0 ≤ c.f1 ∧ c.f1 < 18446744073709551616 := fun c hc => by
    obtain ⟨h0, h1⟩ := hl0 c (List.mem_of_mem_take hc)
    have := wf64 h0; have := wfu64 h1; omega
  have hpl : (l0.take 60).length ≤ 60 := by rw [List.length_take]; omega
  have hll : (l1.take 100).length ≤ 100 := by rw [List.length_take]; omega
  have e100 : l1.take ((mn (l1.length : Int) 100) : Int).toNat = l1.take 100 := by
    rw [show (100 : Int) = ((100 : Nat) : Int) from rfl, mn_len, Int.toNat_natCast, Nat.min_comm, ← List.take_eq_take_min]
  have hmn : 0 ≤ mn (l1.length : Int) 100 ∧ mn (l1.length : Int) 100 ≤ (l1.length : Int) := by
    rw [show (100 : Int) = ((100 : Nat) : Int) from rfl, mn_len]; omega
  generalize hy : l1.take 100 = y at *
  generalize hq : l0.take 60 = p at *
  have hJ := j1_ev y hll hw
  have hPk := Pack_ev p (by omega) hp
  have hR := Right_ev p (by omega)
  have hlen := packF_len (p.length + 1) p
  -- what comes of the packing and unpacking
  obtain ⟨b, hb⟩ : ∃ b, b = (if rightF (-1) p = true then packF (p.length + 1) p else []) := ⟨_, rfl⟩
  rw [← hb] at hPk
  have hbw : ∀ x ∈ b, 0 ≤ x ∧ x < 18446744073709551616 := by
    rw [hb]
    by_cases h : rightF (-1) p = true
    · rw [if_pos h]; exact packF_wf _ p (Good.of h hp) (by omega)
    · rw [if_neg h]; intro x hx; cases hx
  have hbl : b.length ≤ 1000 := by
    rw [hb]
    by_cases h : rightF (-1) p = true
    · rw [if_pos h]; omega
    · rw [if_neg h]; simp
  have hU := Unpack_ev b hbl hbw
  have core : ∀ small : Bool, (small = true → ∀ c ∈ p, rightF (-1) p = true → c.f0 ≤ 1099511627776) → Ev (fun k => escritoirelaw23_PatchUnpacks.j0 k p y (unpR [] (unpF (b.length + 1) (-1) b)).1 (unpR [] (unpF (b.length + 1) (-1) b)).2 small) true := by
    intro small hs
    refine Ev.step (fun k => by simp only [escritoirelaw23_PatchUnpacks.j0]; rfl) (Ev.bind hR ?_)
    by_cases h : rightF (-1) p = true
    · rw [h]
      cases small with
      | false => exact Ev.congr (fun k => by simp) hJ
      | true =>
        have g := Good.of h hp
        have hu : unpF (b.length + 1) (-1) b = some p := by
          rw [hb, if_pos h]
          exact unp_pack _ _ p (-1) (by omega) (by omega) g (fun c hc => hs rfl c hc h) (fun c hc => by have := g.lo c hc; omega)
        rw [hu, unpR_of]
        have hS := SameT_ev p (by omega)
        refine Ev.congr (f := fun k => (escritoireref23_Same.f k p p).bind fun t220 => (escritoirelaw23_PatchUnpacks.j1 k y (!t220))) (fun k => by simp) (Ev.bind hS ?_)
        exact Ev.congr (fun k => by simp) hJ
    · have h' : rightF (-1) p = false := by simpa using h
      rw [h']
      exact Ev.congr (fun k => by simp) hJ
  have fin : Ev (fun k => (patch_Pack.f k p).bind fun t211 => ((patch_Unpack.f k t211).bind fun bt214 => (if (p.length : Int) = 0 then (escritoirelaw23_PatchUnpacks.j0 k p y bt214.1 bt214.2 true) else (if 0 ≤ (wrap64 ((p.length : Int) - 1)) then (if (wrap64 ((p.length : Int) - 1)) < (p.length : Int) then (escritoirelaw23_PatchUnpacks.j0 k p y bt214.1 bt214.2 (decide (((rd_T31 p (wrap64 ((p.length : Int) - 1))).f0) ≤ 1099511627776))) else (none)) else (none))))) true := by
    refine Ev.bind hPk (Ev.bind hU ?_)
    by_cases h0 : p.length = 0
    · refine Ev.congr (fun k => if_pos (by omega)) (core true (fun _ c hc => ?_))
      have : p = [] := List.eq_nil_of_length_eq_zero h0
      rw [this] at hc; cases hc
    · have ew : wrap64 ((p.length : Int) - 1) = ((p.length - 1 : Nat) : Int) := by rw [wrap_id (by omega) (by omega)]; omega
      refine Ev.congr (fun k => ?_) (core (decide ((p[p.length - 1]'(by omega)).f0 ≤ 1099511627776)) (fun hs c hc hr => ?_))
      · rw [if_neg (by omega), ew, if_pos (by omega), if_pos (by omega), rdT p _ (by omega)]
      · have hlast := of_decide_eq_true hs
        obtain ⟨i, hi, rfl⟩ := List.mem_iff_getElem.1 hc
        by_cases e : i = p.length - 1
        · subst e; exact hlast
        · have := List.pairwise_iff_getElem.1 (Good.of hr hp).up i (p.length - 1) hi (by omega) (by omega)
          omega
  refine Ev.congr (fun k => ?_) fin
  rw [if_pos rfl, early_f]
  simp only [Option.bind_some]
  rw [if_pos hmn.1, if_pos hmn.2, e100, hq]
end Go.Proofs.Ytldlacphokbgcaa.Pure
