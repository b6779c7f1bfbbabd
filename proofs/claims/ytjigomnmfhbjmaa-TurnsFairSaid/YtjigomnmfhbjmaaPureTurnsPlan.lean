/- TurnsPlan in plain Lean: each as often as it needs, and none waits too long. -/
import Derived.Test.YtjigomnmfhbjmaaPureTurnsNext
namespace Go.Proofs.Ytjigomnmfhbjmaa.Pure
open Go.RowKit Go.Proofs.Ytjigomnmfhbjmaa.Print Go.Proofs.YtjigomnmfhbjmaaW.PrintWords Go.Proofs.YtjigomnmfhbjmaaW.PrintLast Go.Proofs.YtjigomnmfhbjmaaW.PrintMore

/-! ### a table of numbers -/
def tab (n : Nat) (g : Nat → Nat) : List Int := (List.range n).map fun j => (g j : Int)
def upf (g : Nat → Nat) (i v : Nat) : Nat → Nat := fun j => if j = i then v else g j
theorem tab_length (n : Nat) (g : Nat → Nat) : (tab n g).length = n := by simp [tab]
theorem rd_tab (n : Nat) (g : Nat → Nat) (i : Nat) (h : i < n) : rd (tab n g) (i : Int) = (g i : Int) := by
  rw [rd_nat _ i (by rw [tab_length]; exact h)]; simp [tab]
theorem tab_set (n : Nat) (g : Nat → Nat) (i v : Nat) : (tab n g).set i (v : Int) = tab n (upf g i v) := by
  apply List.ext_getElem
  · simp [tab]
  · intro j h1 h2
    rw [List.getElem_set]
    simp only [tab, List.getElem_map, List.getElem_range, upf]
    by_cases h : i = j
    · rw [if_pos h, if_pos h.symm]
    · rw [if_neg h, if_neg (fun e => h e.symm)]
theorem tab_zero (n : Nat) : List.replicate n (0 : Int) = tab n (fun _ => 0) := by
  apply List.ext_getElem
  · simp [tab]
  · intro j h1 h2
    simp [tab]
theorem tab_congr (n : Nat) (g h : Nat → Nat) (e : ∀ j, j < n → g j = h j) : tab n g = tab n h := by
  unfold tab
  apply List.map_congr_left
  intro j hj
  rw [e j (List.mem_range.1 hj)]

/-! ### how often each is picked -/
theorem counts_l_ev (n : Nat) (P : List Int) (hP : ∀ x ∈ P, ∃ k : Nat, x = (k : Int) ∧ k < n) (hl : P.length ≤ 100000000) : ∀ (d i : Nat) (g : Nat → Nat), i + d = P.length → (∀ j, g j ≤ i) →
    Ev (fun k => turns_Counts.l0 k (tab n g) P (P.length : Int) (i : Int)) (tab n (fun j => g j + (P.drop i).count (j : Int))) := by
  intro d
  induction d with
  | zero =>
    intro i g hi hg
    have : tab n (fun j => g j + (P.drop i).count (j : Int)) = tab n g := by
      rw [List.drop_of_length_le (by omega)]
      exact tab_congr _ _ _ (fun j _ => by simp)
    rw [this]
    exact Ev.step (fun k => by simp only [turns_Counts.l0]; rw [if_neg (by omega)]) (Ev.now _)
  | succ d ih =>
    intro i g hi hg
    have hlt : i < P.length := by omega
    obtain ⟨q, hq, hqn⟩ := hP P[i] (List.getElem_mem hlt)
    have h0 : ∀ k, turns_Counts.l0 (k + 1) (tab n g) P (P.length : Int) (i : Int) = turns_Counts.l0 k (tab n (upf g q (g q + 1))) P (P.length : Int) ((i + 1 : Nat) : Int) := by
      intro k
      have := hg q
      simp only [turns_Counts.l0]
      rw [if_pos (by omega), if_pos (by omega), if_pos (by omega), rd_nat P i hlt, hq, if_pos (by omega), if_pos (by rw [tab_length]; omega), if_pos (by omega), rd_tab n g q hqn, wrap_id (n := (g q : Int) + 1) (by omega) (by omega), wrap_id (n := (i : Int) + 1) (by omega) (by omega), Int.toNat_natCast,
        show (g q : Int) + 1 = ((g q + 1 : Nat) : Int) by omega, tab_set]
      rfl
    have e : tab n (fun j => g j + (P.drop i).count (j : Int)) = tab n (fun j => upf g q (g q + 1) j + (P.drop (i + 1)).count (j : Int)) := by
      apply tab_congr
      intro j _
      rw [List.drop_eq_getElem_cons hlt, List.count_cons, hq]
      unfold upf
      by_cases h : j = q
      · subst h; simp; omega
      · rw [if_neg h, if_neg (by simp; omega)]; omega
    rw [e]
    refine Ev.step h0 (ih (i + 1) _ (by omega) ?_)
    intro j
    have := hg j
    have := hg q
    unfold upf
    split <;> omega
theorem counts_ev (n : Nat) (hn : n ≤ 64) (P : List Int) (hP : ∀ x ∈ P, ∃ k : Nat, x = (k : Int) ∧ k < n) (hl : P.length ≤ 100000000) : Ev (fun k => turns_Counts.f k P (n : Int)) (tab n (fun j => P.count (j : Int))) := by
  have hm : mn (mx (n : Int) 0) 64 = (n : Int) := by unfold mn mx; split <;> split <;> omega
  have h := counts_l_ev n P hP hl P.length 0 (fun _ => 0) (by omega) (fun _ => Nat.le_refl _)
  have e : tab n (fun j => (fun _ => 0) j + (P.drop 0).count (j : Int)) = tab n (fun j => P.count (j : Int)) := tab_congr _ _ _ (fun j _ => by simp)
  rw [e] at h
  refine Ev.congr (fun k => ?_) h
  unfold turns_Counts.f
  rw [hm, if_pos (by omega), if_pos (by omega), Int.toNat_natCast, tab_zero]
  rfl
theorem lotsFrom_count (lot j : Nat) : ∀ (c : List Nat) (k : Nat), (lotsFrom lot c k).count (j : Int) = if k ≤ j then min (c.getD (j - k) 0) lot else 0 := by
  intro c
  induction c with
  | nil => intro k; simp [lotsFrom]
  | cons a r ih =>
    intro k
    rw [lotsFrom, List.count_append, ih (k + 1), List.count_replicate]
    by_cases h : k = j
    · subst h; rw [if_pos (by simp), if_pos (Nat.le_refl _), if_neg (by omega), Nat.sub_self]; rfl
    · rw [if_neg (by simp; omega)]
      by_cases h1 : k ≤ j
      · rw [if_pos h1, if_pos (by omega), show j - k = (j - (k + 1)) + 1 by omega, List.getD_cons_succ]; omega
      · rw [if_neg h1, if_neg (by omega)]
theorem less_getD (lot : Nat) (c : List Nat) (j : Nat) : (less lot c).getD j 0 = c.getD j 0 - lot := by
  unfold less
  rw [List.getD_eq_getElem?_getD, List.getD_eq_getElem?_getD, List.getElem?_map]
  cases c[j]? <;> simp
theorem planS_count (lot j : Nat) (h1 : 1 ≤ lot) : ∀ (f : Nat) (c : List Nat), (∀ x ∈ c, x ≤ f) → (planS lot f c).count (j : Int) = c.getD j 0 := by
  intro f
  induction f with
  | zero =>
    intro c h
    rw [planS, List.count_nil, List.getD_eq_getElem?_getD]
    cases e : c[j]? with
    | none => rfl
    | some x => have := h x (List.mem_of_getElem? e); simp; omega
  | succ f ih =>
    intro c h
    rw [planS, List.count_append, lotsFrom_count, if_pos (Nat.zero_le _), Nat.sub_zero, ih (less lot c) (by
      intro x hx
      obtain ⟨y, hy, rfl⟩ := List.mem_map.1 hx
      have := h y hy
      omega), less_getD]
    omega
theorem lotsFrom_mem (lot : Nat) : ∀ (c : List Nat) (k : Nat), ∀ x ∈ lotsFrom lot c k, ∃ q : Nat, x = (q : Int) ∧ q < k + c.length := by
  intro c
  induction c with
  | nil => intro k x h; simp [lotsFrom] at h
  | cons a r ih =>
    intro k x h
    rw [lotsFrom, List.mem_append] at h
    rcases h with h | h
    · exact ⟨k, (List.mem_replicate.1 h).2, by simp only [List.length_cons]; omega⟩
    · obtain ⟨q, h1, h2⟩ := ih (k + 1) x h
      exact ⟨q, h1, by simp only [List.length_cons]; omega⟩
theorem less_length (lot : Nat) (c : List Nat) : (less lot c).length = c.length := by simp [less]
theorem planS_mem (lot : Nat) : ∀ (f : Nat) (c : List Nat), ∀ x ∈ planS lot f c, ∃ q : Nat, x = (q : Int) ∧ q < c.length := by
  intro f
  induction f with
  | zero => intro c x h; simp [planS] at h
  | succ f ih =>
    intro c x h
    rw [planS, List.mem_append] at h
    rcases h with h | h
    · obtain ⟨q, h1, h2⟩ := lotsFrom_mem lot c 0 x h
      exact ⟨q, h1, by omega⟩
    · obtain ⟨q, h1, h2⟩ := ih _ x h
      rw [less_length] at h2
      exact ⟨q, h1, h2⟩
theorem lotsFrom_sum (lot : Nat) : ∀ (c : List Nat) (k : Nat), (lotsFrom lot c k).length + (less lot c).sum = c.sum := by
  intro c
  induction c with
  | nil => intro k; rfl
  | cons a r ih =>
    intro k
    have := ih (k + 1)
    simp only [less, lotsFrom, List.length_append, List.length_replicate, List.map_cons, List.sum_cons] at this ⊢
    omega
theorem planS_sum (lot : Nat) (h1 : 1 ≤ lot) : ∀ (f : Nat) (c : List Nat), (∀ x ∈ c, x ≤ f) → (planS lot f c).length = c.sum := by
  intro f
  induction f with
  | zero =>
    intro c h
    rw [planS]
    induction c with
    | nil => rfl
    | cons a r ihr => have := h a (List.mem_cons_self ..); have := ihr (fun x hx => h x (List.mem_cons_of_mem _ hx)); simp only [List.sum_cons, List.length_nil] at this ⊢; omega
  | succ f ih =>
    intro c h
    have h2 := lotsFrom_sum lot c 0
    rw [planS, List.length_append, ih (less lot c) (by
      intro x hx
      obtain ⟨y, hy, rfl⟩ := List.mem_map.1 hx
      have := h y hy
      omega)]
    exact h2

/-! ### none waits too long -/
def Walks (n B : Nat) : List Int → Nat → (Nat → Nat) → Prop
  | [], _, _ => True
  | x :: r, i, last => ∃ q : Nat, x = (q : Int) ∧ q < n ∧ (0 < last q → i - last q ≤ B) ∧ Walks n B r (i + 1) (upf last q (i + 1))
theorem upf_upf (g : Nat → Nat) (k a b : Nat) : upf (upf g k a) k b = upf g k b := by
  funext j
  unfold upf
  by_cases h : j = k
  · rw [if_pos h, if_pos h]
  · rw [if_neg h, if_neg h, if_neg h]
theorem upf_id (g : Nat → Nat) (k : Nat) : upf g k (g k) = g := by
  funext j
  unfold upf
  by_cases h : j = k
  · rw [if_pos h, h]
  · rw [if_neg h]
theorem walks_same (n B k : Nat) (hk : k < n) (b : List Int) : ∀ (m i : Nat) (last : Nat → Nat), last k = i → Walks n B b (i + m) (upf last k (i + m)) → Walks n B (List.replicate m (k : Int) ++ b) i last := by
  intro m
  induction m with
  | zero =>
    intro i last h hb
    rw [Nat.add_zero, ← h, upf_id, h] at hb
    exact hb
  | succ m ih =>
    intro i last h hb
    rw [List.replicate_succ, List.cons_append]
    refine ⟨k, rfl, hk, fun _ => by omega, ih (i + 1) _ (by simp [upf]) ?_⟩
    rw [upf_upf, show i + 1 + m = i + (m + 1) by omega]
    exact hb
theorem walks_block (n B k : Nat) (hk : k < n) (b : List Int) (m i : Nat) (last : Nat → Nat) (h1 : 0 < m → 0 < last k → i - last k ≤ B) (hb : Walks n B b (i + m) (if m = 0 then last else upf last k (i + m))) : Walks n B (List.replicate m (k : Int) ++ b) i last := by
  cases m with
  | zero => exact hb
  | succ m =>
    rw [if_neg (by omega)] at hb
    rw [List.replicate_succ, List.cons_append]
    refine ⟨k, rfl, hk, h1 (by omega), walks_same n B k hk b m (i + 1) _ (by simp [upf]) ?_⟩
    rw [upf_upf, show i + 1 + m = i + (m + 1) by omega]
    exact hb
def far (n k j : Nat) : Nat := if j < k then k - 1 - j else n - 1 - j + k
def Inv (lot n k i : Nat) (r last : Nat → Nat) : Prop := ∀ j, j < n → last j ≤ i ∧ (0 < r j → last j = 0 ∨ i - last j ≤ lot * far n k j)
theorem walks_lots (lot n : Nat) (c : List Nat) (hc : c.length = n) (rest : List Int) (hrest : ∀ i last, Inv lot n 0 i (fun j => c.getD j 0 - lot) last → Walks n (lot * (n - 1)) rest i last) : ∀ (d k i : Nat) (last : Nat → Nat), k + d = n →
    Inv lot n k i (fun j => if j < k then c.getD j 0 - lot else c.getD j 0) last → Walks n (lot * (n - 1)) (lotsFrom lot (c.drop k) k ++ rest) i last := by
  intro d
  induction d with
  | zero =>
    intro k i last hk hI
    rw [List.drop_of_length_le (by omega), lotsFrom, List.nil_append]
    refine hrest i last (fun j hj => ?_)
    have := hI j hj
    refine ⟨this.1, fun h => ?_⟩
    dsimp only at this h
    rcases this.2 (by rw [if_pos (by omega)]; exact h) with h1 | h1
    · exact .inl h1
    · right
      have : far n k j = far n 0 j := by unfold far; rw [if_pos (by omega), if_neg (by omega)]; omega
      rw [← this]; exact h1
  | succ d ih =>
    intro k i last hk hI
    have hlt : k < c.length := by omega
    have hg : c.getD k 0 = c[k] := by rw [List.getD_eq_getElem?_getD, List.getElem?_eq_getElem hlt]; rfl
    rw [List.drop_eq_getElem_cons hlt, lotsFrom, List.append_assoc]
    refine walks_block n _ k (by omega) _ _ i last ?_ ?_
    · intro hm hl
      rcases (hI k (by omega)).2 (by dsimp only; rw [if_neg (by omega), hg]; omega) with h1 | h1
      · omega
      · have : far n k k = n - 1 := by unfold far; rw [if_neg (by omega)]; omega
        rw [this] at h1
        exact h1
    · refine ih (k + 1) _ _ (by omega) (fun j hj => ?_)
      obtain ⟨h1, h2⟩ := hI j hj
      dsimp only at h2 ⊢
      have hmin : min c[k] lot ≤ lot := by omega
      by_cases hjk : j = k
      · subst hjk
        have hf : far n (j + 1) j = 0 := by unfold far; rw [if_pos (by omega)]; omega
        by_cases hm : min c[j] lot = 0
        · rw [if_pos hm, hm]
          refine ⟨by omega, fun h => ?_⟩
          rw [if_pos (by omega), hg] at h
          rw [hf]
          have : lot = 0 := by omega
          subst this
          rw [hg] at h2
          rcases h2 (by rw [if_neg (by omega)]; omega) with h3 | h3
          · exact .inl h3
          · right; simpa using h3
        · rw [if_neg hm]
          simp only [upf, if_true]
          refine ⟨by omega, fun _ => .inr (by omega)⟩
      · have hl2 : (if min c[k] lot = 0 then last else upf last k (i + min c[k] lot)) j = last j := by
          split
          · rfl
          · unfold upf; rw [if_neg hjk]
        rw [hl2]
        refine ⟨by omega, fun h => ?_⟩
        have hf : far n (k + 1) j = far n k j + 1 := by
          unfold far
          by_cases h3 : j < k
          · rw [if_pos (by omega), if_pos h3]; omega
          · rw [if_neg (by omega), if_neg h3]; omega
        rw [hf, Nat.mul_succ]
        have h3 : 0 < (if j < k then c.getD j 0 - lot else c.getD j 0) := by
          by_cases h3 : j < k
          · rw [if_pos h3]; rw [if_pos (by omega)] at h; exact h
          · rw [if_neg h3]; rw [if_neg (by omega)] at h; exact h
        rcases h2 h3 with h4 | h4
        · exact .inl h4
        · right; omega
theorem walks_plan (lot n : Nat) : ∀ (f : Nat) (c : List Nat) (i : Nat) (last : Nat → Nat), c.length = n → Inv lot n 0 i (fun j => c.getD j 0) last → Walks n (lot * (n - 1)) (planS lot f c) i last := by
  intro f
  induction f with
  | zero => intro c i last _ _; rw [planS]; trivial
  | succ f ih =>
    intro c i last hc hI
    rw [planS]
    have := walks_lots lot n c hc (planS lot f (less lot c)) (fun i last h => ih (less lot c) i last (by rw [less_length]; exact hc) (by
      intro j hj
      have := h j hj
      dsimp only
      rw [less_getD]
      exact this)) n 0 i last (by omega) (by
      intro j hj
      have := hI j hj
      dsimp only
      rw [if_neg (by omega)]
      exact this)
    rw [List.drop_zero] at this
    exact this

/-! ### the law's own loops -/
theorem law_l1_ev (need P : List Int) (n lot : Nat) (hn : need.length = n) (hn2 : n ≤ 12) (hlot : lot ≤ 9) (hP : P.length ≤ 100000000) : ∀ (d i : Nat) (last : Nat → Nat), i + d = P.length → (∀ j, last j ≤ i) → Walks n (lot * (n - 1)) (P.drop i) i last →
    Ev (fun k => escritoirelaw22_TurnsPlan.l1 k need (lot : Int) P (P.length : Int) (tab n last) (i : Int)) true := by
  intro d
  induction d with
  | zero =>
    intro i last hi _ _
    refine Ev.step (fun k => ?_) (Ev.now true)
    simp only [escritoirelaw22_TurnsPlan.l1]
    rw [if_neg (by omega)]
    simp
  | succ d ih =>
    intro i last hi hla hW
    have hlt : i < P.length := by omega
    rw [List.drop_eq_getElem_cons hlt] at hW
    obtain ⟨q, hq, hqn, hgap, hW⟩ := hW
    have hl := hla q
    have h0 : ∀ k, escritoirelaw22_TurnsPlan.l1 (k + 1) need (lot : Int) P (P.length : Int) (tab n last) (i : Int) = escritoirelaw22_TurnsPlan.j2 k need (lot : Int) P (P.length : Int) (tab n last) (i : Int) (q : Int) false := by
      intro k
      simp only [escritoirelaw22_TurnsPlan.l1]
      rw [if_pos (by omega), if_pos (by omega), rd_nat P i hlt, hq, if_neg (by omega), decide_eq_false (by omega)]
    have hprod : wrap64 ((lot : Int) * wrap64 ((need.length : Int) - 1)) = ((lot * (n - 1) : Nat) : Int) := by
      have h1 : (need.length : Int) - 1 = ((n - 1 : Nat) : Int) := by omega
      have h2 : lot * (n - 1) ≤ 9 * 11 := Nat.mul_le_mul hlot (by omega)
      rw [h1, wrap_id (n := ((n - 1 : Nat) : Int)) (by omega) (by omega), ← Int.natCast_mul, wrap_id (by omega) (by omega)]
    have h1 : ∀ k, escritoirelaw22_TurnsPlan.j2 (k + 1) need (lot : Int) P (P.length : Int) (tab n last) (i : Int) (q : Int) false = escritoirelaw22_TurnsPlan.l1 k need (lot : Int) P (P.length : Int) (tab n (upf last q (i + 1))) ((i + 1 : Nat) : Int) := by
      intro k
      have hs : (tab n last).set q ((i : Int) + 1) = tab n (upf last q (i + 1)) := by
        rw [show (i : Int) + 1 = ((i + 1 : Nat) : Int) by omega, tab_set]
      simp only [escritoirelaw22_TurnsPlan.j2, Bool.false_eq_true, if_false]
      rw [if_pos (by omega), if_pos (by rw [tab_length]; omega), rd_tab n last q hqn, hprod, wrap_id (n := (i : Int) + 1) (by omega) (by omega), Int.toNat_natCast, hs, wrap_id (n := (i : Int) + 1 - (last q : Int)) (by omega) (by omega), wrap_id (n := (i : Int) + 1 - (last q : Int) - 1) (by omega) (by omega)]
      by_cases h : 0 < last q
      · have := hgap h
        rw [if_pos (by omega), if_neg (by omega)]
        rfl
      · rw [if_neg (by omega)]
        rfl
    refine Ev.step h0 (Ev.step h1 (ih (i + 1) _ (by omega) ?_ hW))
    intro j
    have := hla j
    unfold upf
    split <;> omega
theorem law_l0_ev (need P : List Int) (n lot : Nat) (hn : need.length = n) (hn2 : n ≤ 12) (hlot : lot ≤ 9) (hP : P.length ≤ 100000000) (hW : Walks n (lot * (n - 1)) P 0 (fun _ => 0)) (hs : P.length = (need.map clampN).sum) : ∀ (d i s : Nat), i + d = n → s ≤ i * 1000 → s + ((need.map clampN).drop i).sum = (need.map clampN).sum →
    Ev (fun k => escritoirelaw22_TurnsPlan.l0 k need (lot : Int) P (tab n (fun j => (need.map clampN).getD j 0)) (s : Int) (i : Int)) true := by
  intro d
  induction d with
  | zero =>
    intro i s hi hsi hsum
    rw [List.drop_of_length_le (by rw [List.length_map]; omega), List.sum_nil, Nat.add_zero] at hsum
    have h0 : ∀ k, escritoirelaw22_TurnsPlan.l0 (k + 1) need (lot : Int) P (tab n (fun j => (need.map clampN).getD j 0)) (s : Int) (i : Int) = escritoirelaw22_TurnsPlan.l1 k need (lot : Int) P (P.length : Int) (tab n (fun _ => 0)) ((0 : Nat) : Int) := by
      intro k
      simp only [escritoirelaw22_TurnsPlan.l0]
      rw [if_neg (by omega), if_pos (by omega), if_pos (by omega), Int.toNat_natCast, hn, tab_zero, hs, ← hsum]
      rfl
    exact Ev.step h0 (law_l1_ev need P n lot hn hn2 hlot hP P.length 0 _ (by omega) (fun _ => Nat.le_refl _) hW)
  | succ d ih =>
    intro i s hi hsi hsum
    have hlt : i < need.length := by omega
    have hcl := clampN_le need[i]
    have hdr : (need.map clampN).drop i = clampN need[i] :: (need.map clampN).drop (i + 1) := by
      rw [List.drop_eq_getElem_cons (by rw [List.length_map]; exact hlt)]
      simp
    rw [hdr, List.sum_cons] at hsum
    have hg : (need.map clampN).getD i 0 = clampN need[i] := by rw [List.getD_eq_getElem?_getD, List.getElem?_map, List.getElem?_eq_getElem hlt]; rfl
    refine Ev.step (fun k => ?_) (ih (i + 1) (s + clampN need[i]) (by omega) (by omega) (by omega))
    simp only [escritoirelaw22_TurnsPlan.l0]
    rw [if_pos (by omega), if_pos (by omega), if_pos (by rw [tab_length]; omega), rd_tab n _ i (by omega), hg, rd_nat need i hlt, clampN_cast, if_pos rfl, wrap_id (n := (s : Int) + (clampN need[i] : Int)) (by omega) (by omega), wrap_id (n := (i : Int) + 1) (by omega) (by omega)]
    rfl
theorem lotOf (a : Int) (m : Nat) (hm : 0 < m) (hm2 : m ≤ 1000) : ∃ lot : Nat, wrap64 (1 + wrap64 (Int.tmod (IntKind.u64.wrap a) (m : Int))) = (lot : Int) ∧ 1 ≤ lot ∧ lot ≤ m := by
  have h1 : 0 ≤ IntKind.u64.wrap a := by rw [IntKind.wrap_u64]; omega
  have h2 := Int.tmod_nonneg (m : Int) h1
  have h3 := Int.tmod_lt_of_pos (IntKind.u64.wrap a) (show (0 : Int) < (m : Int) by omega)
  generalize Int.tmod (IntKind.u64.wrap a) (m : Int) = z at *
  rw [wrap_id (n := z) (by omega) (by omega), wrap_id (n := 1 + z) (by omega) (by omega)]
  exact ⟨(1 + z).toNat, by omega, by omega, by omega⟩
theorem TurnsPlan : escritoirelaw22_TurnsPlan.Pure := by
  intro l0 a1 hl0 ha
  obtain ⟨lot, hlot, h1, h2⟩ := lotOf a1 9 (by omega) (by omega)
  have hlen : (l0.take 12).length ≤ 12 := by rw [List.length_take]; omega
  have hw : ∀ x ∈ l0.take 12, -9223372036854775808 ≤ x := fun x hx => (wf64 (hl0.2.2 x (List.mem_of_mem_take hx))).1
  have hmm : mn (mx (lot : Int) 1) 1000 = (lot : Int) := by unfold mn mx; split <;> split <;> omega
  have hp := plan_ev (l0.take 12) (lot : Int) lot hmm h1 (by omega) (by omega) hw
  have hcl : ∀ x ∈ (l0.take 12).map clampN, x ≤ 1000 := fun x hx => by obtain ⟨y, _, rfl⟩ := List.mem_map.1 hx; exact clampN_le y
  have hb := planS_length lot 1000 ((l0.take 12).map clampN) hcl
  rw [List.length_map] at hb
  have hsum := planS_sum lot h1 1000 ((l0.take 12).map clampN) hcl
  have hmem := planS_mem lot 1000 ((l0.take 12).map clampN)
  rw [List.length_map] at hmem
  have hcnt := fun j => planS_count lot j h1 1000 ((l0.take 12).map clampN) hcl
  have hwk := walks_plan lot (l0.take 12).length 1000 ((l0.take 12).map clampN) 0 (fun _ => 0) (by rw [List.length_map]) (fun j _ => ⟨Nat.le_refl _, fun _ => .inl rfl⟩)
  generalize planS lot 1000 ((l0.take 12).map clampN) = P at *
  have hc := counts_ev (l0.take 12).length (by omega) P hmem (by omega)
  rw [tab_congr _ _ (fun j => ((l0.take 12).map clampN).getD j 0) (fun j _ => hcnt j)] at hc
  have hL := law_l0_ev (l0.take 12) P _ lot rfl hlen h2 (by omega) hwk hsum (l0.take 12).length 0 0 (by omega) (by omega) (by rw [List.drop_zero, Nat.zero_add])
  have hh : Ev (fun k => escritoirelaw22_TurnsPlan.f k l0 a1) true := by
    unfold escritoirelaw22_TurnsPlan.f
    refine Ev.bind lives_ev ?_
    rw [early_ev]
    have hlot' : wrap64 (1 + wrap64 (Int.tmod (IntKind.u64.wrap a1) 9)) = (lot : Int) := hlot
    simp only [if_true, Option.bind_some, hlot']
    exact Ev.bind hp (Ev.bind hc hL)
  exact hh.rounds
end Go.Proofs.Ytjigomnmfhbjmaa.Pure
