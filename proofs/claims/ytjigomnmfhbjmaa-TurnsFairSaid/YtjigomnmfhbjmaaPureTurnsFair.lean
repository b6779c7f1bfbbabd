/- TurnsFair in plain Lean: where all need as much a plan is fair by its lot. -/
import Derived.Test.YtjigomnmfhbjmaaPureTurnsPlan
namespace Go.Proofs.Ytjigomnmfhbjmaa.Pure
open Go.RowKit Go.Proofs.Ytjigomnmfhbjmaa.Print Go.Proofs.YtjigomnmfhbjmaaW.PrintWords Go.Proofs.YtjigomnmfhbjmaaW.PrintLast Go.Proofs.YtjigomnmfhbjmaaW.PrintMore

/-! ### the greatest and the least of a table -/
theorem max_l_ev (l : List Int) (hl : l.length ≤ 1000000) : ∀ (d i : Nat) (m : Int), i + d = l.length → m ∈ l → (∀ x ∈ l.take i, x ≤ m) → ∃ r, r ∈ l ∧ (∀ x ∈ l, x ≤ r) ∧ Ev (fun k => slices_Max_int_int.l0 k l m (i : Int)) r := by
  intro d
  induction d with
  | zero =>
    intro i m hi hm hle
    rw [List.take_of_length_le (by omega)] at hle
    exact ⟨m, hm, hle, Ev.step (fun k => by simp only [slices_Max_int_int.l0]; rw [if_neg (by omega)]) (Ev.now _)⟩
  | succ d ih =>
    intro i m hi hm hle
    have hlt : i < l.length := by omega
    have h1 := ih (i + 1) (mx m l[i]) (by omega) (by unfold mx; split; · exact List.getElem_mem hlt
                                                     · exact hm) (by
      intro x hx
      rw [List.take_succ_eq_append_getElem hlt, List.mem_append, List.mem_singleton] at hx
      rcases hx with hx | rfl
      · have := hle x hx; unfold mx; split <;> omega
      · unfold mx; split <;> omega)
    obtain ⟨r, hr1, hr2, hr3⟩ := h1
    refine ⟨r, hr1, hr2, Ev.step (fun k => ?_) hr3⟩
    simp only [slices_Max_int_int.l0]
    rw [if_pos (by omega), if_pos (by omega), rd_nat l i hlt, wrap_id (by omega) (by omega)]
    rfl
theorem max_ev (l : List Int) (hl : l.length ≤ 1000000) (h0 : 0 < l.length) : ∃ r, r ∈ l ∧ (∀ x ∈ l, x ≤ r) ∧ Ev (fun k => slices_Max_int_int.f k l) r := by
  obtain ⟨r, h1, h2, h3⟩ := max_l_ev l hl (l.length - 1) 1 l[0] (by omega) (List.getElem_mem h0) (by
    intro x hx
    rw [List.take_succ_eq_append_getElem h0] at hx
    simp at hx
    omega)
  refine ⟨r, h1, h2, Ev.congr (fun k => ?_) h3⟩
  unfold slices_Max_int_int.f
  rw [if_neg (by omega), if_pos (by omega), show (0 : Int) = ((0 : Nat) : Int) from rfl, rd_nat l 0 h0]
  rfl
theorem min_l_ev (l : List Int) (hl : l.length ≤ 1000000) : ∀ (d i : Nat) (m : Int), i + d = l.length → m ∈ l → (∀ x ∈ l.take i, m ≤ x) → ∃ r, r ∈ l ∧ (∀ x ∈ l, r ≤ x) ∧ Ev (fun k => slices_Min_int_int.l0 k l m (i : Int)) r := by
  intro d
  induction d with
  | zero =>
    intro i m hi hm hle
    rw [List.take_of_length_le (by omega)] at hle
    exact ⟨m, hm, hle, Ev.step (fun k => by simp only [slices_Min_int_int.l0]; rw [if_neg (by omega)]) (Ev.now _)⟩
  | succ d ih =>
    intro i m hi hm hle
    have hlt : i < l.length := by omega
    have h1 := ih (i + 1) (mn m l[i]) (by omega) (by unfold mn; split; · exact List.getElem_mem hlt
                                                     · exact hm) (by
      intro x hx
      rw [List.take_succ_eq_append_getElem hlt, List.mem_append, List.mem_singleton] at hx
      rcases hx with hx | rfl
      · have := hle x hx; unfold mn; split <;> omega
      · unfold mn; split <;> omega)
    obtain ⟨r, hr1, hr2, hr3⟩ := h1
    refine ⟨r, hr1, hr2, Ev.step (fun k => ?_) hr3⟩
    simp only [slices_Min_int_int.l0]
    rw [if_pos (by omega), if_pos (by omega), rd_nat l i hlt, wrap_id (by omega) (by omega)]
    rfl
theorem min_ev (l : List Int) (hl : l.length ≤ 1000000) (h0 : 0 < l.length) : ∃ r, r ∈ l ∧ (∀ x ∈ l, r ≤ x) ∧ Ev (fun k => slices_Min_int_int.f k l) r := by
  obtain ⟨r, h1, h2, h3⟩ := min_l_ev l hl (l.length - 1) 1 l[0] (by omega) (List.getElem_mem h0) (by
    intro x hx
    rw [List.take_succ_eq_append_getElem h0] at hx
    simp at hx
    omega)
  refine ⟨r, h1, h2, Ev.congr (fun k => ?_) h3⟩
  unfold slices_Min_int_int.f
  rw [if_neg (by omega), if_pos (by omega), show (0 : Int) = ((0 : Nat) : Int) from rfl, rd_nat l 0 h0]
  rfl

/-! ### what is fair -/
def okC (n most : Nat) (g : Nat → Nat) : Prop := ∀ j, j < n → ∀ k, k < n → g j ≤ g k + most
theorem tab_mem (n : Nat) (g : Nat → Nat) (x : Int) (h : x ∈ tab n g) : ∃ j, j < n ∧ x = (g j : Int) := by
  unfold tab at h
  obtain ⟨j, hj, rfl⟩ := List.mem_map.1 h
  exact ⟨j, List.mem_range.1 hj, rfl⟩
theorem mem_tab (n : Nat) (g : Nat → Nat) (j : Nat) (h : j < n) : (g j : Int) ∈ tab n g := List.mem_map.2 ⟨j, List.mem_range.2 h, rfl⟩
/-- The look at a table: it goes on, or it ends with no. -/
theorem fair_j2_ev (P : List Int) (n most : Nat) (hn : 0 < n) (hn2 : n ≤ 64) (g : Nat → Nat) (hg : ∀ j, g j ≤ 1000000) (x : Int) (hx : -1 ≤ x ∧ x ≤ 1000000) (R : Bool)
    (hok : okC n most g → Ev (fun k => turns_Fair.l0 k P (most : Int) (tab n g) (x + 1)) R) (hno : ¬ okC n most g → R = false) :
    Ev (fun k => turns_Fair.j2 k P (most : Int) (tab n g) x) R := by
  obtain ⟨a, ha1, ha2, ha3⟩ := max_ev (tab n g) (by rw [tab_length]; omega) (by rw [tab_length]; omega)
  obtain ⟨b, hb1, hb2, hb3⟩ := min_ev (tab n g) (by rw [tab_length]; omega) (by rw [tab_length]; omega)
  obtain ⟨ja, hja, rfl⟩ := tab_mem n g a ha1
  obtain ⟨jb, hjb, rfl⟩ := tab_mem n g b hb1
  have := hg ja
  have := hg jb
  have h0 : ∀ k, turns_Fair.j2 (k + 1) P (most : Int) (tab n g) x = (slices_Max_int_int.f k (tab n g)).bind fun t149 => ((slices_Min_int_int.f k (tab n g)).bind fun t150 => (if (wrap64 (t149 - t150)) > (most : Int) then (some false) else (turns_Fair.l0 k P (most : Int) (tab n g) (wrap64 (x + 1))))) := by
    intro k
    simp only [turns_Fair.j2]
    rw [if_pos (by rw [tab_length]; omega)]
  refine Ev.step h0 (Ev.bind ha3 (Ev.bind hb3 ?_))
  rw [wrap_id (n := (g ja : Int) - (g jb : Int)) (by omega) (by omega), wrap_id (n := x + 1) (by omega) (by omega)]
  by_cases h : okC n most g
  · have := h ja hja jb hjb
    exact Ev.congr (fun k => if_neg (by omega)) (hok h)
  · rw [hno h]
    by_cases c : (g ja : Int) - (g jb : Int) > (most : Int)
    · exact Ev.congr (fun k => if_pos c) (Ev.now _)
    · exfalso
      apply h
      intro j hj k hk
      have h1 := ha2 _ (mem_tab n g j hj)
      have h2 := hb2 _ (mem_tab n g k hk)
      omega
def Fairs (n most : Nat) : List Int → (Nat → Nat) → Bool → Prop
  | [], _, R => R = true
  | x :: r, g, R => ∃ q : Nat, x = (q : Int) ∧ q < n ∧ (okC n most (upf g q (g q + 1)) → Fairs n most r (upf g q (g q + 1)) R) ∧ (¬ okC n most (upf g q (g q + 1)) → R = false)
theorem fair_l0_ev (P : List Int) (n most : Nat) (hn : 0 < n) (hn2 : n ≤ 64) (hP : P.length ≤ 100000) (R : Bool) : ∀ (d i : Nat) (g : Nat → Nat), i + d = P.length → (∀ j, g j ≤ i) → Fairs n most (P.drop i) g R →
    Ev (fun k => turns_Fair.l0 k P (most : Int) (tab n g) (i : Int)) R := by
  intro d
  induction d with
  | zero =>
    intro i g hi hg hF
    rw [List.drop_of_length_le (by omega)] at hF
    rw [show R = true from hF]
    exact Ev.step (fun k => by simp only [turns_Fair.l0]; rw [if_neg (by omega)]) (Ev.now _)
  | succ d ih =>
    intro i g hi hg hF
    have hlt : i < P.length := by omega
    rw [List.drop_eq_getElem_cons hlt] at hF
    obtain ⟨q, hq, hqn, h1, h2⟩ := hF
    have hgq := hg q
    have hg' : ∀ j, upf g q (g q + 1) j ≤ i + 1 := by intro j; have := hg j; unfold upf; split <;> omega
    have e0 : ∀ k, turns_Fair.l0 (k + 1) P (most : Int) (tab n g) (i : Int) = turns_Fair.j1 k P (most : Int) (tab n g) (i : Int) true := by
      intro k
      simp only [turns_Fair.l0]
      rw [if_pos (by omega), if_pos (by omega), if_pos (by omega), rd_nat P i hlt, hq, if_pos (by omega), decide_eq_true (by rw [tab_length]; omega)]
    have e1 : ∀ k, turns_Fair.j1 (k + 1) P (most : Int) (tab n g) (i : Int) true = turns_Fair.j2 k P (most : Int) (tab n (upf g q (g q + 1))) (i : Int) := by
      intro k
      have hs : (tab n g).set q ((g q : Int) + 1) = tab n (upf g q (g q + 1)) := by
        rw [show (g q : Int) + 1 = ((g q + 1 : Nat) : Int) by omega, tab_set]
      simp only [turns_Fair.j1, if_true]
      rw [if_pos (by omega), if_pos (by omega), rd_nat P i hlt, hq, if_pos (by omega), if_pos (by rw [tab_length]; omega), rd_tab n g q hqn, wrap_id (n := (g q : Int) + 1) (by omega) (by omega), Int.toNat_natCast, hs]
    exact Ev.step e0 (Ev.step e1 (fair_j2_ev P n most hn hn2 _ (fun j => by have := hg' j; omega) (i : Int) (by omega) R (fun h => ih (i + 1) _ (by omega) hg' (h1 h)) h2))
theorem fair_ev (P : List Int) (n most : Nat) (hn : 0 < n) (hn2 : n ≤ 64) (hP : P.length ≤ 100000) (R : Bool) (hF : Fairs n most P (fun _ => 0) R) : Ev (fun k => turns_Fair.f k P (n : Int) (most : Int)) R := by
  have hc := counts_ev n hn2 [] (fun x h => by simp at h) (by simp)
  rw [tab_congr n (fun j => List.count (j : Int) []) (fun _ => 0) (fun _ _ => rfl)] at hc
  unfold turns_Fair.f
  refine Ev.bind hc ?_
  have e0 : ∀ k, turns_Fair.l0 (k + 1) P (most : Int) (tab n fun _ => 0) (-1) = turns_Fair.j1 k P (most : Int) (tab n fun _ => 0) (-1) false := by
    intro k
    simp only [turns_Fair.l0]
    rw [if_pos (by omega), if_neg (by omega)]
  have e1 : ∀ k, turns_Fair.j1 (k + 1) P (most : Int) (tab n fun _ => 0) (-1) false = turns_Fair.j2 k P (most : Int) (tab n fun _ => 0) (-1) := by
    intro k
    simp only [turns_Fair.j1, Bool.false_eq_true, if_false]
  refine Ev.step e0 (Ev.step e1 (fair_j2_ev P n most hn hn2 _ (fun j => by omega) (-1) (by omega) R (fun h => ?_) (fun h => absurd (fun j _ k _ => Nat.zero_le _) h)))
  exact fair_l0_ev P n most hn hn2 hP R P.length 0 _ (by omega) (fun _ => Nat.le_refl _) hF

/-! ### plans where all need as much -/
theorem fairs_block (n most k : Nat) (hk : k < n) (b : List Int) : ∀ (m : Nat) (g : Nat → Nat), (∀ t, t ≤ m → okC n most (upf g k (g k + t))) → Fairs n most b (upf g k (g k + m)) true → Fairs n most (List.replicate m (k : Int) ++ b) g true := by
  intro m
  induction m with
  | zero =>
    intro g _ h
    rw [Nat.add_zero, upf_id] at h
    exact h
  | succ m ih =>
    intro g hok h
    rw [List.replicate_succ, List.cons_append]
    have e : upf g k (g k + 1) k = g k + 1 := by simp [upf]
    refine ⟨k, rfl, hk, fun _ => ih _ (fun t ht => ?_) ?_, fun h => absurd (hok 1 (by omega)) h⟩
    · rw [e, upf_upf, show g k + 1 + t = g k + (t + 1) by omega]
      exact hok (t + 1) (by omega)
    · rw [e, upf_upf, show g k + 1 + m = g k + (m + 1) by omega]
      exact h
theorem fairs_lots (lot n m q : Nat) (hm : m ≤ lot) (rest : List Int) (c : Nat) (hc : min c lot = m) (hrest : Fairs n lot rest (fun j => if j < n then q + m else 0) true) : ∀ (d k : Nat), k + d = n →
    Fairs n lot (lotsFrom lot (List.replicate d c) k ++ rest) (fun j => if j < k then q + m else if j < n then q else 0) true := by
  intro d
  induction d with
  | zero =>
    intro k hk
    have e : (fun j => if j < k then q + m else if j < n then q else 0) = (fun j => if j < n then q + m else 0) := by
      funext j
      by_cases h : j < k
      · rw [if_pos h, if_pos (by omega)]
      · rw [if_neg h, if_neg (by omega), if_neg (by omega)]
    rw [e, List.replicate_zero, lotsFrom, List.nil_append]
    exact hrest
  | succ d ih =>
    intro k hk
    rw [List.replicate_succ, lotsFrom, List.append_assoc, hc]
    obtain ⟨g, hg⟩ : ∃ g : Nat → Nat, g = fun j => if j < k then q + m else if j < n then q else 0 := ⟨_, rfl⟩
    have hgv : ∀ j, g j = if j < k then q + m else if j < n then q else 0 := fun j => by rw [hg]
    have hgk : g k = q := by rw [hgv, if_neg (by omega), if_pos (by omega)]
    rw [← hg]
    refine fairs_block n lot k (by omega) _ m g (fun t ht j hj i hi => ?_) ?_
    · rw [hgk]
      have h1 : ∀ j, j < n → q ≤ upf g k (q + t) j ∧ upf g k (q + t) j ≤ q + m := by
        intro j hj
        unfold upf
        by_cases a : j = k
        · rw [if_pos a]; omega
        · rw [if_neg a, hgv]
          by_cases b : j < k
          · rw [if_pos b]; omega
          · rw [if_neg b, if_pos hj]; omega
      have h2 := h1 j hj
      have h3 := h1 i hi
      omega
    · rw [hgk]
      have e : upf g k (q + m) = (fun j => if j < k + 1 then q + m else if j < n then q else 0) := by
        funext j
        unfold upf
        by_cases a : j = k
        · rw [if_pos a, if_pos (by omega)]
        · rw [if_neg a, hgv]
          by_cases b : j < k
          · rw [if_pos b, if_pos (by omega)]
          · rw [if_neg b, if_neg (show ¬ j < k + 1 by omega)]
      rw [e]
      exact ih (k + 1) (by omega)
theorem fairs_plan (lot n : Nat) : ∀ (f c q : Nat), Fairs n lot (planS lot f (List.replicate n c)) (fun j => if j < n then q else 0) true := by
  intro f
  induction f with
  | zero => intro c q; rw [planS]; rfl
  | succ f ih =>
    intro c q
    rw [planS]
    have h := fairs_lots lot n (min c lot) q (by omega) (planS lot f (less lot (List.replicate n c))) c rfl (by
      have e : less lot (List.replicate n c) = List.replicate n (c - lot) := by unfold less; rw [List.map_replicate]
      rw [e]
      exact ih (c - lot) (q + min c lot)) n 0 (by omega)
    have e : (fun j => if j < 0 then q + min c lot else if j < n then q else 0) = (fun j => if j < n then q else 0) := by
      funext j
      rw [if_neg (by omega)]
    rw [e] at h
    exact h
theorem okC_one (m t : Nat) (h : t ≤ m) : okC 2 m (upf (fun _ => 0) 0 t) := by
  intro j _ k _
  show (if j = 0 then t else 0) ≤ (if k = 0 then t else 0) + m
  split <;> split <;> omega
theorem fairs_one (m : Nat) : Fairs 2 m (List.replicate m 0) (fun _ => 0) true := by
  have h := fairs_block 2 m 0 (by omega) [] m (fun _ => 0) (fun t ht => by rw [Nat.zero_add]; exact okC_one m t ht) rfl
  rw [List.append_nil] at h
  exact h
theorem fairs_alone (m : Nat) : Fairs 1 0 (List.replicate m 0) (fun _ => 0) true := by
  have h := fairs_block 1 0 0 (by omega) [] m (fun _ => 0) (fun t ht j hj k hk => by
    have : j = k := by omega
    subst this
    omega) rfl
  rw [List.append_nil] at h
  exact h
theorem fairs_not (m : Nat) : ∀ (d s : Nat), s + d = m + 1 → s ≤ m → Fairs 2 m (List.replicate d 0) (upf (fun _ => 0) 0 s) false := by
  intro d
  induction d with
  | zero => intro s h1 h2; omega
  | succ d ih =>
    intro s h1 h2
    rw [List.replicate_succ]
    have e : upf (fun _ => 0) 0 s 0 = s := by simp [upf]
    refine ⟨0, rfl, by omega, fun h => ?_, fun _ => rfl⟩
    rw [e, upf_upf] at h ⊢
    have h3 := h 0 (by omega) 1 (by omega)
    simp [upf] at h3
    exact ih (s + 1) (by omega) h3
theorem fill_ev (n need lot : Nat) (hn : n ≤ 8) (R : Bool) : ∀ (d i : Nat), i + d = n →
    Ev (fun k => escritoirelaw22_TurnsFair.l0 k (n : Int) (need : Int) (lot : Int) (List.replicate n (need : Int)) (n : Int)) R →
    Ev (fun k => escritoirelaw22_TurnsFair.l0 k (n : Int) (need : Int) (lot : Int) (List.replicate i (need : Int) ++ List.replicate d 0) (i : Int)) R := by
  intro d
  induction d with
  | zero =>
    intro i hi h
    rw [List.replicate_zero, List.append_nil, show i = n by omega]
    exact h
  | succ d ih =>
    intro i hi h
    refine Ev.step (fun k => ?_) (ih (i + 1) (by omega) h)
    have hs : (List.replicate i (need : Int) ++ List.replicate (d + 1) 0).set i (need : Int) = List.replicate (i + 1) (need : Int) ++ List.replicate d 0 := by
      rw [List.set_append_right _ _ (by rw [List.length_replicate]; omega), List.length_replicate, Nat.sub_self, List.replicate_succ, List.set_cons_zero, List.replicate_succ', List.append_assoc]
      rfl
    simp only [escritoirelaw22_TurnsFair.l0]
    rw [if_pos (by omega), if_pos (by omega), if_pos (by rw [List.length_append, List.length_replicate, List.length_replicate]; omega), wrap_id (n := (i : Int) + 1) (by omega) (by omega), Int.toNat_natCast, hs]
    rfl
theorem numOf (a : Int) (m : Nat) (hm : 0 < m) (hm2 : m ≤ 1000) : ∃ z : Nat, wrap64 (Int.tmod (IntKind.u64.wrap a) (m : Int)) = (z : Int) ∧ z < m := by
  have h1 : 0 ≤ IntKind.u64.wrap a := by rw [IntKind.wrap_u64]; omega
  have h2 := Int.tmod_nonneg (m : Int) h1
  have h3 := Int.tmod_lt_of_pos (IntKind.u64.wrap a) (show (0 : Int) < (m : Int) by omega)
  generalize Int.tmod (IntKind.u64.wrap a) (m : Int) = z at *
  rw [wrap_id (n := z) (by omega) (by omega)]
  exact ⟨z.toNat, by omega, by omega⟩
theorem plan_same_ev (n need lot : Nat) (hn : n ≤ 8) (hneed : need < 20) (h1 : 1 ≤ lot) (h2 : lot ≤ 6) : ∃ P, Ev (fun k => turns_Plan.f k (List.replicate n (need : Int)) (lot : Int)) P ∧ P.length ≤ 100000 ∧ Fairs n lot P (fun _ => 0) true := by
  have hmm : mn (mx (lot : Int) 1) 1000 = (lot : Int) := by unfold mn mx; split <;> split <;> omega
  have hcl : clampN (need : Int) = need := by unfold clampN mn mx; split <;> split <;> omega
  have hp := plan_ev (List.replicate n (need : Int)) (lot : Int) lot hmm h1 (by omega) (by rw [List.length_replicate]; omega) (fun x hx => by rw [(List.mem_replicate.1 hx).2]; omega)
  rw [List.map_replicate, hcl] at hp
  have hs := planS_sum lot h1 1000 (List.replicate n need) (fun x hx => by rw [(List.mem_replicate.1 hx).2]; omega)
  have hb : (List.replicate n need).sum ≤ 8 * 20 := by
    rw [List.sum_replicate_nat]
    exact Nat.mul_le_mul hn (by omega)
  have hf := fairs_plan lot n 1000 need 0
  generalize planS lot 1000 (List.replicate n need) = P at *
  refine ⟨P, hp, by omega, ?_⟩
  have e : (fun j => if j < n then 0 else 0) = (fun _ : Nat => 0) := by funext j; split <;> rfl
  rw [e] at hf
  exact hf
theorem TurnsFair : escritoirelaw22_TurnsFair.Pure := by
  intro a0 a1 a2 h0 h1 h2
  obtain ⟨n, hn, hn1, hn2⟩ := lotOf a0 8 (by omega) (by omega)
  obtain ⟨lot, hlot, hl1, hl2⟩ := lotOf a2 6 (by omega) (by omega)
  obtain ⟨need, hneed, hd⟩ := numOf a1 20 (by omega) (by omega)
  have hn' : wrap64 (1 + wrap64 (Int.tmod (IntKind.u64.wrap a0) 8)) = (n : Int) := hn
  have hlot' : wrap64 (1 + wrap64 (Int.tmod (IntKind.u64.wrap a2) 6)) = (lot : Int) := hlot
  have hneed' : wrap64 (Int.tmod (IntKind.u64.wrap a1) 20) = (need : Int) := hneed
  obtain ⟨P, hP1, hP2, hP3⟩ := plan_same_ev n need lot hn2 hd hl1 hl2
  obtain ⟨Q, hQ1, hQ2, hQ3⟩ := plan_same_ev n need 1 hn2 hd (by omega) (by omega)
  have fP := fair_ev P n lot (by omega) (by omega) hP2 true hP3
  have fQ := fair_ev Q n 1 (by omega) (by omega) hQ2 true hQ3
  have fO := fair_ev (List.replicate need 0) 2 need (by omega) (by omega) (by rw [List.length_replicate]; omega) true (fairs_one need)
  have fA := fair_ev (List.replicate need 0) 1 0 (by omega) (by omega) (by rw [List.length_replicate]; omega) true (fairs_alone need)
  have hend : Ev (fun k => escritoirelaw22_TurnsFair.l0 k (n : Int) (need : Int) (lot : Int) (List.replicate n (need : Int)) (n : Int)) true := by
    have e0 : ∀ k, escritoirelaw22_TurnsFair.l0 (k + 1) (n : Int) (need : Int) (lot : Int) (List.replicate n (need : Int)) (n : Int) = ((turns_Plan.f k (List.replicate n (need : Int)) (lot : Int)).bind fun t234 => ((turns_Fair.f k t234 (n : Int) (lot : Int)).bind fun t237 => (if t237 = true then ((turns_Plan.f k (List.replicate n (need : Int)) 1).bind fun t238 => ((turns_Fair.f k t238 (n : Int) 1).bind fun t241 => (if t241 = true then ((turns_Fair.f k (List.replicate need 0) 2 (need : Int)).bind fun t242 => (if t242 = true then (if (need : Int) = 0 then ((turns_Fair.f k (List.replicate need 0) 1 0).bind fun t243 => (some t243)) else ((turns_Fair.f k (List.replicate need 0) 2 (wrap64 ((need : Int) - 1))).bind fun t244 => (if t244 = true then (some false) else ((turns_Fair.f k (List.replicate need 0) 1 0).bind fun t245 => (some t245))))) else (some false))) else (some false)))) else (some false)))) := by
      intro k
      simp only [escritoirelaw22_TurnsFair.l0]
      rw [if_neg (by omega), if_pos (by omega), if_pos (by omega), Int.toNat_natCast]
      rfl
    refine Ev.step e0 (Ev.bind hP1 (Ev.bind fP ?_))
    simp only [if_true]
    refine Ev.bind hQ1 (Ev.bind fQ ?_)
    simp only [if_true]
    refine Ev.bind fO ?_
    simp only [if_true]
    by_cases hz : need = 0
    · exact Ev.congr (fun k => if_pos (by omega)) (Ev.bind fA (Ev.now _))
    · refine Ev.congr (fun k => if_neg (by omega)) ?_
      have fN := fair_ev (List.replicate need 0) 2 (need - 1) (by omega) (by omega) (by rw [List.length_replicate]; omega) false (by
        have := fairs_not (need - 1) need 0 (by omega) (by omega)
        rw [show upf (fun _ => 0) 0 0 = (fun _ : Nat => 0) from upf_id (fun _ => 0) 0] at this
        exact this)
      rw [wrap_id (n := (need : Int) - 1) (by omega) (by omega), show (need : Int) - 1 = ((need - 1 : Nat) : Int) by omega]
      refine Ev.bind fN ?_
      simp only [Bool.false_eq_true, if_false]
      exact Ev.bind fA (Ev.now _)
  have hfill := fill_ev n need lot hn2 true n 0 (by omega) hend
  have hh : Ev (fun k => escritoirelaw22_TurnsFair.f k a0 a1 a2) true := by
    unfold escritoirelaw22_TurnsFair.f
    refine Ev.bind lives_ev ?_
    simp only [if_true, hn', hlot', hneed']
    refine Ev.congr (fun k => ?_) hfill
    rw [if_pos (by omega), if_pos (by omega), Int.toNat_natCast]
    rfl
  exact hh.rounds
end Go.Proofs.Ytjigomnmfhbjmaa.Pure
