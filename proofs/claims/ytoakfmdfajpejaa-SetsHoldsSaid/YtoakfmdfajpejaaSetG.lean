/- Sets of files: those who hold them, by the document. -/
import Derived.Test.YtoakfmdfajpejaaSetF
import Derived.Test.YtoakfmdfajpejaaPrint3
namespace Go.Proofs.Ytoakfmdfajpejaa.Sets
open Go Go.Maps Go.RowKit Go.Proofs.Ytoakfmdfajpejaa.ML Go.Proofs.Ytoakfmdfajpejaa.Reg Go.Proofs.Ytoakfmdfajpejaa.Print Go.Proofs.YtoakfmdfajpejaaW.PrintWords Go.Proofs.YtoakfmdfajpejaaW.PrintLast Go.Proofs.YtoakfmdfajpejaaW.PrintMore
set_option linter.unusedVariables false
set_option linter.unusedSimpArgs false
abbrev Hd := S50
theorem rd_hd (l : List Hd) (i : Nat) (h : i < l.length) : rd_T50 l (i : Int) = l[i] := by
  unfold rd_T50
  rw [Int.toNat_natCast, List.getD_eq_getElem?_getD, List.getElem?_eq_getElem h]
  rfl
/-- Who holds a file. -/
def ofL (h : List Hd) (k : Int) : Int := h.foldl (fun by_ y => if y.f0 = k then y.f1 else by_) 0
theorem ofL_snoc (h : List Hd) (y : Hd) (k : Int) : ofL (h ++ [y]) k = if y.f0 = k then y.f1 else ofL h k := by
  unfold ofL
  rw [List.foldl_append]
  rfl
theorem of0 (h : List Hd) (k : Int) (hl : h.length ≤ 1000) : ∀ n i by_, h.length - i = n → i ≤ h.length → ∃ q, escritoireref15_Of.l0 q h k by_ (i : Nat) = some ((h.drop i).foldl (fun by_ y => if y.f0 = k then y.f1 else by_) by_) := by
  intro n
  induction n with
  | zero =>
    intro i by_ hn hi
    have : i = h.length := by omega
    subst this
    refine ⟨1, ?_⟩
    unfold escritoireref15_Of.l0
    rw [if_neg (by omega), List.drop_length]
    rfl
  | succ n ih =>
    intro i by_ hn hi
    have hil : i < h.length := by omega
    obtain ⟨q, hq⟩ := ih (i + 1) (if h[i].f0 = k then h[i].f1 else by_) (by omega) (by omega)
    refine ⟨q + 1, ?_⟩
    unfold escritoireref15_Of.l0
    rw [if_pos (by omega), if_pos (by omega), rd_hd h i hil, List.drop_eq_getElem_cons hil, List.foldl_cons, wrap_small (by omega) (by omega)]
    have e : ((i : Int) + 1) = ((i + 1 : Nat) : Int) := by omega
    rw [e]
    split
    · rename_i hk; rw [if_pos hk] at hq; exact hq
    · rename_i hk; rw [if_neg hk] at hq; exact hq
theorem of_f (h : List Hd) (k : Int) (hl : h.length ≤ 1000) : ∃ q, escritoireref15_Of.f q h k = some (ofL h k) := by
  obtain ⟨q, hq⟩ := of0 h k hl _ 0 0 rfl (Nat.zero_le _)
  exact ⟨q, hq⟩
theorem ROf_as {w : World} {A : Option Addr} {c : Nat} {l : List Hd} (hr : Kd.C k50 w A l.length l) (hc : l.length ≤ c) (hl : l.length ≤ 1000) (x : Int) {v : Int} (hv : ofL l x = v) :
    Calls Try.prog 20 #[.slice A l.length c, .int .i64 x] w fun e w' => e = .returned (.int .i64 v) ∧ Below w.heap.size w w' := by
  subst hv
  obtain ⟨q, hq⟩ := of_f l x hl
  exact (escritoireref15_Of.calls q A c l x _ w hr hc hq).mono fun e w' h => ⟨h.1, by obtain ⟨m, rfl⟩ := h.2; exact pw_below_drewN (Below.refl _ _) m⟩
def rfree (h : List Hd) (me : Int) (l : List Int) : Bool := l.all fun x => decide (ofL h x = 0) || decide (ofL h x = me)
theorem free0 (h : List Hd) (me : Int) (l : List Int) (hh : h.length ≤ 1000) (hl : l.length ≤ 1000) : ∀ n i, l.length - i = n → i ≤ l.length → ∃ q, escritoireref15_Free.l0 q l h me (i : Nat) = some (rfree h me (l.drop i)) := by
  intro n
  induction n with
  | zero =>
    intro i hn hi
    have : i = l.length := by omega
    subst this
    refine ⟨1, ?_⟩
    unfold escritoireref15_Free.l0
    rw [if_neg (by omega), List.drop_length]
    rfl
  | succ n ih =>
    intro i hn hi
    have hil : i < l.length := by omega
    obtain ⟨q1, hq1⟩ := ih (i + 1) (by omega) (by omega)
    obtain ⟨q2, hq2⟩ := of_f h l[i] hh
    have g1 : escritoireref15_Free.l0 (max q1 q2) l h me ((i + 1 : Nat) : Int) = _ := at_rounds (g := fun k => escritoireref15_Free.l0 k l h me ((i + 1 : Nat) : Int)) (fun k => escritoireref15_Free.mono_l k _ _ _ _) (Nat.le_max_left q1 q2) hq1
    have g2 : escritoireref15_Of.f (max q1 q2) h l[i] = _ := at_rounds (g := fun k => escritoireref15_Of.f k h l[i]) (fun k => escritoireref15_Of.mono _ _ k) (Nat.le_max_right q1 q2) hq2
    refine ⟨max q1 q2 + 1, ?_⟩
    unfold escritoireref15_Free.l0
    rw [if_pos (by omega), if_pos (by omega), rd_nat l i hil, g2, wrap_small (by omega) (by omega)]
    have e : ((i : Int) + 1) = ((i + 1 : Nat) : Int) := by omega
    rw [e, g1, List.drop_eq_getElem_cons hil]
    show (if ofL h l[i] = 0 then _ else _) = _
    unfold rfree
    rw [List.all_cons]
    by_cases h0 : ofL h l[i] = 0
    · simp [h0]
    · by_cases h1 : ofL h l[i] = me
      · simp [h0, h1]
      · simp [h0, h1]
theorem RFree_as {w : World} {A : Option Addr} {c : Nat} {l : List Int} (hr : Kd.C (Kd.int .i64) w A l.length l) (hc : l.length ≤ c) (hl : l.length ≤ 1000) {B : Option Addr} {d : Nat} {h : List Hd} (hh : Kd.C k50 w B h.length h) (hd : h.length ≤ d) (hn : h.length ≤ 1000) (me : Int) {v : Bool} (hv : rfree h me l = v) :
    Calls Try.prog 15 #[.slice A l.length c, .slice B h.length d, .int .i64 me] w fun e w' => e = .returned (.bool v) ∧ Below w.heap.size w w' := by
  subst hv
  obtain ⟨q, hq⟩ := free0 h me l hn hl _ 0 rfl (Nat.zero_le _)
  rw [List.drop_zero] at hq
  exact (escritoireref15_Free.calls q A c l B d h me _ w hr hc hh hd hq).mono fun e w' h => ⟨h.1, by obtain ⟨m, rfl⟩ := h.2; exact pw_below_drewN (Below.refl _ _) m⟩
/-- The first ones by transactions of 1 and more. -/
def fitL (l : List Hd) : List Hd := (l.take 60).filter fun y => decide (y.f1 > 0)
theorem fit0 (l : List Hd) (hl : l.length ≤ 9223372036854775806) : ∀ n i (out : List Hd), (l.take 60).length - i = n → i ≤ (l.take 60).length → out.length ≤ i → ∃ q, escritoirelaw15_fit.l0 q l out (i : Nat) = some (out ++ ((l.take 60).drop i).filter fun y => decide (y.f1 > 0)) := by
  intro n
  have h60 : (l.take 60).length ≤ 60 := List.length_take_le ..
  have hle : (l.take 60).length ≤ l.length := List.length_take_le' ..
  induction n with
  | zero =>
    intro i out hn hi ho
    have hi' : i = (l.take 60).length := by omega
    refine ⟨2, ?_⟩
    rw [hi', List.drop_length, List.filter_nil, List.append_nil]
    unfold escritoirelaw15_fit.l0
    split
    · have : (l.take 60).length = 60 := by rw [List.length_take] at *; omega
      unfold escritoirelaw15_fit.j1
      rw [if_neg (by rw [this]; decide)]
    · unfold escritoirelaw15_fit.j1
      rfl
  | succ n ih =>
    intro i out hn hi ho
    have hit : i < (l.take 60).length := by omega
    have hil : i < l.length := by omega
    have hg : (l.take 60)[i] = l[i] := List.getElem_take ..
    have e : wrap64 ((i : Int) + 1) = ((i + 1 : Nat) : Int) := by rw [wrap_small (by omega) (by omega)]; omega
    by_cases hp : l[i].f1 > 0
    · obtain ⟨q, hq⟩ := ih (i + 1) (out ++ [l[i]]) (by omega) (by omega) (by simp; omega)
      refine ⟨q + 2, ?_⟩
      unfold escritoirelaw15_fit.l0
      rw [if_pos (by omega)]
      unfold escritoirelaw15_fit.j1
      rw [if_pos (by simp; omega), if_pos (by omega), if_pos (by omega), rd_hd l i hil, if_pos hp, if_pos (by omega), e, List.drop_eq_getElem_cons hit, hg, List.filter_cons, if_pos (by simpa using hp)]
      rw [List.append_assoc, List.singleton_append] at hq
      exact hq
    · obtain ⟨q, hq⟩ := ih (i + 1) out (by omega) (by omega) (by omega)
      refine ⟨q + 2, ?_⟩
      unfold escritoirelaw15_fit.l0
      rw [if_pos (by omega)]
      unfold escritoirelaw15_fit.j1
      rw [if_pos (by simp; omega), if_pos (by omega), if_pos (by omega), rd_hd l i hil, if_neg hp, e, List.drop_eq_getElem_cons hit, hg, List.filter_cons, if_neg (by simpa using hp)]
      exact hq
theorem fit_as {w : World} {A : Option Addr} {c : Nat} {l : List Hd} (hr : Kd.C k50 w A l.length l) (hc : l.length ≤ c) (hl : l.length ≤ 9223372036854775806) {m : List Hd} (hm : fitL l = m) :
    Calls Try.prog 13 #[.slice A l.length c] w fun e w' => ∃ B d, e = .returned (.slice B m.length d) ∧ Kd.C k50 w' B m.length m ∧ m.length ≤ d ∧ Below w.heap.size w w' := by
  subst hm
  obtain ⟨q, hq⟩ := fit0 l hl _ 0 [] rfl (Nat.zero_le _) (Nat.le_refl _)
  rw [List.drop_zero, List.nil_append] at hq
  refine (escritoirelaw15_fit.calls q A c l _ w hr hc hq).mono fun e w' h => ?_
  obtain ⟨v, rfl, ho, hb⟩ := h
  obtain ⟨B, d, rfl, hd, hC⟩ := Kd.R_reads ho
  exact ⟨B, d, rfl, hC, hd, hb⟩
theorem fitL_len (l : List Hd) : (fitL l).length ≤ 60 := Nat.le_trans (List.length_filter_le _ _) (List.length_take_le ..)
theorem fitL_pos {l : List Hd} {y : Hd} (h : y ∈ fitL l) : y.f1 > 0 := by simpa using (List.mem_filter.1 h).2
theorem fitL_mem {l : List Hd} {y : Hd} (h : y ∈ fitL l) : y ∈ l := List.mem_of_mem_take (List.mem_filter.1 h).1
/-! As the program has them. -/
def holdsL (l : List Hd) : List (Int × Int) := l.foldl (fun m y => if y.f1 > 0 then put m y.f0 y.f1 else m) []
theorem holdsL_snoc (l : List Hd) (y : Hd) : holdsL (l ++ [y]) = if y.f1 > 0 then put (holdsL l) y.f0 y.f1 else holdsL l := by
  unfold holdsL
  rw [List.foldl_append]
  rfl
theorem snoc_ind {α : Type} {p : List α → Prop} (h0 : p []) (h1 : ∀ l x, p l → p (l ++ [x])) (l : List α) : p l := by
  rw [← List.reverse_reverse l]
  induction l.reverse with
  | nil => exact h0
  | cons x r ih => rw [List.reverse_cons]; exact h1 _ _ ih
theorem holdsL_len (l : List Hd) : (holdsL l).length ≤ l.length := by
  induction l using snoc_ind with
  | h0 => exact Nat.le_refl _
  | h1 l y ih =>
    rw [holdsL_snoc, List.length_append]
    have := length_put (holdsL l) y.f0 y.f1
    split <;> simp <;> omega
theorem holdsL_sorted (l : List Hd) : Sorted (holdsL l) := by
  induction l using snoc_ind with
  | h0 => exact List.Pairwise.nil
  | h1 l y ih =>
    rw [holdsL_snoc]
    split
    · exact sorted_put ih _ _
    · exact ih
theorem holdsL_get {l : List Hd} (hl : ∀ y ∈ l, y.f1 > 0) (k : Int) : (get (holdsL l) k = none ∧ ofL l k = 0) ∨ (get (holdsL l) k = some (ofL l k) ∧ ofL l k > 0) := by
  revert hl
  induction l using snoc_ind with
  | h0 => intro _; exact Or.inl ⟨rfl, rfl⟩
  | h1 l y ih =>
    intro hl
    have hy := hl y (by simp)
    rw [holdsL_snoc, if_pos hy, get_put, ofL_snoc]
    by_cases hk : k = y.f0
    · rw [if_pos hk, if_pos hk.symm]; exact Or.inr ⟨rfl, hy⟩
    · rw [if_neg hk, if_neg (fun h => hk h.symm)]
      exact ih fun z hz => hl z (by simp [hz])
theorem holdsL_of {l : List Hd} (hl : ∀ y ∈ l, y.f1 > 0) (k : Int) : (get (holdsL l) k).getD 0 = ofL l k := by
  rcases holdsL_get hl k with ⟨h1, h2⟩ | ⟨h1, h2⟩
  · rw [h1, h2]; rfl
  · rw [h1]; rfl
theorem free_same {l : List Hd} (hl : ∀ y ∈ l, y.f1 > 0) (me : Int) (a : List Int) : freeL (holdsL l) me a = rfree l me a := by
  unfold freeL rfree
  rw [List.not_any_eq_all_not]
  congr 1
  funext x
  unfold heldBy
  rcases holdsL_get hl x with ⟨h1, h2⟩ | ⟨h1, h2⟩
  · rw [h1, h2]; simp
  · rw [h1]
    by_cases h3 : ofL l x = me
    · simp [h3]
    · have : ofL l x ≠ 0 := by omega
      simp [h3, this]
def mine (me : Int) (a : List Int) : List Hd := a.map fun k => ⟨k, me⟩
theorem of_mine (l : List Hd) (me : Int) (a : List Int) (k : Int) : ofL (l ++ mine me a) k = if k ∈ a then me else ofL l k := by
  induction a using snoc_ind with
  | h0 => simp [mine]
  | h1 a x ih =>
    have : l ++ mine me (a ++ [x]) = (l ++ mine me a) ++ [⟨x, me⟩] := by simp [mine]
    rw [this, ofL_snoc, ih]
    by_cases h1 : x = k
    · simp [h1]
    · have : ¬ k = x := fun h => h1 h.symm
      by_cases h2 : k ∈ a <;> simp [h1, h2, this]
/-- What is held behind a take. -/
theorem take_pack {l : List Hd} (hl : ∀ y ∈ l, y.f1 > 0) (me : Int) (hme : 1 ≤ me) (a : List Int) (hn : l.length ≤ 60) (ha : a.length ≤ 60) {F : Bool} (hF : rfree l me a = F) : ∃ (H T D : List (Int × Int)) (next : List Hd), holdsL l = H ∧ H.length ≤ 1000 ∧ Sorted H ∧ (∀ k, (get H k).getD 0 = ofL l k) ∧ freeL H me a = F ∧ takeL H me a = T ∧ T.length ≤ 1000 ∧ Sorted T ∧
    (if F = true then l ++ mine me a else l) = next ∧ next.length ≤ 1000 ∧ (∀ k, (get T k).getD 0 = ofL next k) ∧ dropL T me = D ∧ Sorted D ∧ (∀ k v, get D k = some v → v ≠ me ∧ ofL next k = v) ∧ (∀ k, ofL next k ≠ me → (get D k).getD 0 = ofL next k) := by
  have hfr := free_same hl me a
  rw [hF] at hfr
  have hT : ∀ k, (get (takeL (holdsL l) me a) k).getD 0 = ofL (if F = true then l ++ mine me a else l) k := by
    intro k
    unfold takeL
    rw [hfr]
    cases F with
    | true =>
      rw [if_pos rfl, if_pos rfl, of_mine, get_putsL]
      by_cases hk : k ∈ a
      · rw [if_pos hk, if_pos hk]; rfl
      · rw [if_neg hk, if_neg hk]; exact holdsL_of hl k
    | false => exact holdsL_of hl k
  have hsT : Sorted (takeL (holdsL l) me a) := by
    unfold takeL
    split
    · exact putsL_sorted _ _ _ (holdsL_sorted l)
    · exact holdsL_sorted l
  have hD : ∀ k, get (dropL (takeL (holdsL l) me a) me) k = match get (takeL (holdsL l) me a) k with | some v => if v = me then none else some v | none => none := by
    intro k
    have h := get_dropTo hsT me (fun _ => false) k
    rw [dropTo_end me (fun _ => rfl)] at h
    rw [h]
    cases get (takeL (holdsL l) me a) k with
    | none => rfl
    | some v => by_cases hv : v = me <;> simp [hv]
  have hlT := takeL_len (holdsL l) me a
  have hlH := holdsL_len l
  refine ⟨_, _, _, _, rfl, by omega, holdsL_sorted l, holdsL_of hl, hfr, rfl, by omega, hsT, rfl, ?_, hT, rfl, List.Pairwise.filter _ hsT, ?_, ?_⟩
  · split
    · simp [mine]; omega
    · omega
  · intro k v h
    have h2 := hT k
    rw [hD] at h
    cases hg : get (takeL (holdsL l) me a) k with
    | none => rw [hg] at h; cases h
    | some u =>
      rw [hg] at h h2
      simp only at h
      split at h
      · cases h
      · rename_i hu
        obtain rfl := Option.some.inj h
        exact ⟨hu, h2.symm⟩
  · intro k h
    have h2 := hT k
    rw [hD]
    cases hg : get (takeL (holdsL l) me a) k with
    | none => rw [hg] at h2; exact h2
    | some u =>
      rw [hg] at h2
      have h3 : u = ofL (if F = true then l ++ mine me a else l) k := h2
      show (if u = me then none else some u : Option Int).getD 0 = _
      rw [if_neg (by rw [h3]; exact h)]
      exact h3
end Go.Proofs.Ytoakfmdfajpejaa.Sets
