/- TurnsRound in plain Lean: asked again and again, all that are ready come once. -/
import Derived.Test.YtjigomnmfhbjmaaPureTurnsNext
namespace Go.Proofs.Ytjigomnmfhbjmaa.Pure
open Go.RowKit Go.Proofs.Ytjigomnmfhbjmaa.Print Go.Proofs.YtjigomnmfhbjmaaW.PrintWords Go.Proofs.YtjigomnmfhbjmaaW.PrintLast Go.Proofs.YtjigomnmfhbjmaaW.PrintMore

/-- The places of what is ready, counted from o. -/
def trues : Nat → List Bool → List Nat
  | _, [] => []
  | o, b :: r => if b then o :: trues (o + 1) r else trues (o + 1) r
theorem trues_append (a b : List Bool) : ∀ o, trues o (a ++ b) = trues o a ++ trues (o + a.length) b := by
  induction a with
  | nil => intro o; rfl
  | cons x a ih =>
    intro o
    have := ih (o + 1)
    rw [show o + 1 + a.length = o + (x :: a).length by simp only [List.length_cons]; omega] at this
    cases x
    · simp only [List.cons_append, trues, Bool.false_eq_true, if_false]; exact this
    · simp only [List.cons_append, trues, if_true, this]
theorem trues_mem (m : List Bool) : ∀ o q, q ∈ trues o m → o ≤ q ∧ q < o + m.length ∧ m[q - o]? = some true := by
  induction m with
  | nil => intro o q h; simp [trues] at h
  | cons b m ih =>
    intro o q h
    have hr : q ∈ trues (o + 1) m → o ≤ q ∧ q < o + (b :: m).length ∧ (b :: m)[q - o]? = some true := by
      intro h
      obtain ⟨h1, h2, h3⟩ := ih (o + 1) q h
      refine ⟨by omega, by simp only [List.length_cons]; omega, ?_⟩
      rw [show q - o = (q - (o + 1)) + 1 by omega, List.getElem?_cons_succ]
      exact h3
    cases b
    · simp only [trues, Bool.false_eq_true, if_false] at h; exact hr h
    · simp only [trues, if_true, List.mem_cons] at h
      rcases h with rfl | h
      · simp
      · exact hr h
theorem trues_nodup (m : List Bool) : ∀ o, (trues o m).Nodup := by
  induction m with
  | nil => intro o; simp [trues]
  | cons b m ih =>
    intro o
    cases b
    · simp only [trues, Bool.false_eq_true, if_false]; exact ih _
    · simp only [trues, if_true, List.nodup_cons]
      exact ⟨fun h => by have := (trues_mem m _ _ h).1; omega, ih _⟩
theorem trues_find (m : List Bool) : ∀ o, m.findIdx? id = (trues o m).head?.map (· - o) := by
  induction m with
  | nil => intro o; rfl
  | cons b m ih =>
    intro o
    rw [List.findIdx?_cons]
    cases b
    · simp only [id, Bool.false_eq_true, if_false, trues]
      rw [ih (o + 1)]
      cases h : trues (o + 1) m with
      | nil => rfl
      | cons q t =>
        have := (trues_mem m (o + 1) q (by rw [h]; exact List.mem_cons_self ..)).1
        simp only [List.head?_cons, Option.map_some]
        congr 1; omega
    · simp [trues]
theorem trues_cons (m : List Bool) : ∀ o q t, trues o m = q :: t → ∃ pre suf, m = pre ++ true :: suf ∧ trues o pre = [] ∧ q = o + pre.length ∧ t = trues (q + 1) suf := by
  induction m with
  | nil => intro o q t h; simp [trues] at h
  | cons b m ih =>
    intro o q t h
    cases b
    · simp only [trues, Bool.false_eq_true, if_false] at h
      obtain ⟨pre, suf, h1, h2, h3, h4⟩ := ih _ _ _ h
      refine ⟨false :: pre, suf, by rw [h1]; rfl, by simp only [trues, Bool.false_eq_true, if_false]; exact h2, by simp only [List.length_cons]; omega, h4⟩
    · simp only [trues, if_true, List.cons.injEq] at h
      exact ⟨[], m, rfl, rfl, by simp [h.1], by rw [← h.1]; exact h.2.symm⟩
/-- What is ready, round the ring from p on. -/
def ringT (l : List Bool) (p : Nat) : List Nat := trues p (l.drop p) ++ trues 0 (l.take p)
theorem ringT_mem (l : List Bool) (p q : Nat) (hp : p ≤ l.length) (h : q ∈ ringT l p) : ∃ h : q < l.length, l[q] = true := by
  unfold ringT at h
  rcases List.mem_append.1 h with h | h
  · obtain ⟨h1, h2, h3⟩ := trues_mem _ _ _ h
    rw [List.length_drop] at h2
    have hq : q < l.length := by omega
    rw [List.getElem?_drop, show p + (q - p) = q by omega, List.getElem?_eq_getElem hq] at h3
    exact ⟨hq, Option.some.inj h3⟩
  · obtain ⟨h1, h2, h3⟩ := trues_mem _ _ _ h
    rw [List.length_take] at h2
    have hq : q < l.length := by omega
    rw [Nat.sub_zero, List.getElem?_take, if_pos (by omega), List.getElem?_eq_getElem hq] at h3
    exact ⟨hq, Option.some.inj h3⟩
theorem ringT_nodup (l : List Bool) (p : Nat) : (ringT l p).Nodup := by
  unfold ringT
  rw [List.nodup_append]
  refine ⟨trues_nodup _ _, trues_nodup _ _, fun a ha b hb => ?_⟩
  have h1 := (trues_mem _ _ _ ha).1
  have h2 := (trues_mem _ _ _ hb).2.1
  rw [List.length_take] at h2
  omega
theorem ringT_length (l : List Bool) (p : Nat) (hp : p ≤ l.length) : (ringT l p).length = (trues 0 l).length := by
  have := trues_append (l.take p) (l.drop p) 0
  rw [List.take_append_drop, Nat.zero_add, List.length_take, Nat.min_eq_left hp] at this
  rw [this]
  unfold ringT
  rw [List.length_append, List.length_append, Nat.add_comm]
theorem ringT_turn (l : List Bool) (p q : Nat) (t : List Nat) (hp : p ≤ l.length) (h : ringT l p = q :: t) : ringT l (q + 1) = t ++ [q] := by
  unfold ringT at h
  have hl := (List.take_append_drop p l).symm
  cases h1 : trues p (l.drop p) with
  | cons q1 t1 =>
    rw [h1, List.cons_append, List.cons.injEq] at h
    obtain ⟨rfl, rfl⟩ := h
    obtain ⟨pre, suf, e1, e2, e3, e4⟩ := trues_cons _ _ _ _ h1
    rw [e1] at hl
    have hlt : (l.take p).length = p := by rw [List.length_take]; omega
    have hl2 : l = (l.take p ++ pre ++ [true]) ++ suf := by rw [List.append_assoc, List.append_assoc]; exact hl
    have hlen : (l.take p ++ pre ++ [true]).length = q1 + 1 := by simp only [List.length_append, List.length_cons, List.length_nil]; omega
    have hd : l.drop (q1 + 1) = suf := by conv => lhs; rw [hl2, ← hlen, List.drop_left]
    have ht : l.take (q1 + 1) = l.take p ++ pre ++ [true] := by conv => lhs; rw [hl2, ← hlen, List.take_left]
    unfold ringT
    rw [hd, ht, ← e4, trues_append, trues_append, Nat.zero_add, hlt, e2, List.append_nil, List.append_assoc, Nat.zero_add]
    congr 2
    rw [show (l.take p ++ pre).length = q1 by rw [List.length_append]; omega]
    rfl
  | nil =>
    rw [h1, List.nil_append] at h
    obtain ⟨pre, suf, e1, e2, e3, e4⟩ := trues_cons _ _ _ _ h
    rw [Nat.zero_add] at e3
    have hlt : (l.take p).length = p := by rw [List.length_take]; omega
    rw [e1] at hl hlt
    have hl2 : l = (pre ++ [true]) ++ (suf ++ l.drop p) := by rw [List.append_assoc]; simpa using hl
    have hlen : (pre ++ [true]).length = q + 1 := by simp only [List.length_append, List.length_cons, List.length_nil]; omega
    have hd : l.drop (q + 1) = suf ++ l.drop p := by conv => lhs; rw [hl2, ← hlen, List.drop_left]
    have ht : l.take (q + 1) = pre ++ [true] := by conv => lhs; rw [hl2, ← hlen, List.take_left]
    unfold ringT
    have hsuf : q + 1 + suf.length = p := by simp only [List.length_append, List.length_cons] at hlt; omega
    rw [hd, ht, trues_append, ← e4, hsuf, h1, trues_append, e2, List.append_nil, Nat.zero_add, ← e3]
    rfl
theorem nextS_ring (l : List Bool) (p : Nat) (_ : p ≤ l.length) : nextS l p = match ringT l p with | [] => (0, false) | q :: _ => ((q : Int), true) := by
  unfold nextS ringT
  rw [trues_find (l.drop p) p, trues_find (l.take p) 0]
  cases h1 : trues p (l.drop p) with
  | cons q t =>
    have := (trues_mem _ _ q (by rw [h1]; exact List.mem_cons_self ..)).1
    simp only [List.head?_cons, Option.map_some, List.cons_append]
    rw [show p + (q - p) = q by omega]
  | nil =>
    simp only [List.head?_nil, Option.map_none, List.nil_append]
    cases h2 : trues 0 (l.take p) with
    | nil => rfl
    | cons q t => rfl

theorem trues_length_le (m : List Bool) : ∀ o, (trues o m).length ≤ m.length := by
  induction m with
  | nil => intro o; simp [trues]
  | cons b m ih =>
    intro o
    have := ih (o + 1)
    cases b <;> simp only [trues, Bool.false_eq_true, if_false, if_true, List.length_cons] <;> omega
theorem round_l1_ev (l : List Bool) (hl : l.length ≤ 40) (c : Nat) (hc : c = (trues 0 l).length) : ∀ (d i : Nat) (a : Int) (seen : List Bool) (rem don : List Nat),
    i + d = c → seen.length = l.length → ringT l (posS l a) = rem ++ don → rem.length = d → (∀ q (h : q < seen.length), seen[q] = true → q ∈ don) →
    Ev (fun k => escritoirelaw22_TurnsRound.l1 k l a (c : Int) seen (i : Int)) true := by
  intro d
  induction d with
  | zero =>
    intro i a seen rem don hi hs hr hrem hsn
    have hp := posS_le l a
    have hn := next_ev l (by omega) a
    rw [nextS_ring l _ hp] at hn
    have hlen := ringT_length l _ hp
    have h0 : ∀ k, escritoirelaw22_TurnsRound.l1 (k + 1) l a (c : Int) seen (i : Int) = (turns_Next.f k a l).bind fun bt => some (bt.2 == decide ((c : Int) > 0)) := by
      intro k
      simp only [escritoirelaw22_TurnsRound.l1]
      rw [if_neg (by omega)]
    refine Ev.step h0 (Ev.bind hn ?_)
    cases hT : ringT l (posS l a) with
    | nil =>
      rw [hT] at hlen
      have : decide ((c : Int) > 0) = false := decide_eq_false (by simp at hlen; omega)
      rw [this]
      exact Ev.now _
    | cons q t =>
      rw [hT] at hlen
      have : decide ((c : Int) > 0) = true := decide_eq_true (by simp at hlen; omega)
      rw [this]
      exact Ev.now _
  | succ d ih =>
    intro i a seen rem don hi hs hr hrem hsn
    have hcl := trues_length_le l 0
    have hp := posS_le l a
    have hn := next_ev l (by omega) a
    rw [nextS_ring l _ hp] at hn
    obtain ⟨q, t, rfl⟩ : ∃ q t, rem = q :: t := by
      cases rem with
      | nil => simp at hrem
      | cons q t => exact ⟨q, t, rfl⟩
    rw [List.cons_append] at hr
    rw [hr] at hn
    obtain ⟨hq, hqt⟩ := ringT_mem l _ q hp (by rw [hr]; exact List.mem_cons_self ..)
    have hnd := ringT_nodup l (posS l a)
    rw [hr, List.nodup_cons] at hnd
    have hqd : q ∉ don := fun h => hnd.1 (List.mem_append_right _ h)
    have hsq : seen[q]'(by omega) = false := by
      cases h : seen[q]'(by omega) with
      | false => rfl
      | true => exact absurd (hsn q (by omega) h) hqd
    have hturn := ringT_turn l _ q (t ++ don) hp hr
    have hpos : posS l (q : Int) = q + 1 := by unfold posS; rw [if_neg (by omega)]; omega
    have h0 : ∀ k, escritoirelaw22_TurnsRound.l1 (k + 1) l a (c : Int) seen (i : Int) = (turns_Next.f k a l).bind fun bt255 => (if bt255.2 = true then (if bt255.1 < 0 then (some false) else (if bt255.1 ≥ (l.length : Int) then (some false) else (if 0 ≤ bt255.1 then (if bt255.1 < (l.length : Int) then (if rdOf false l bt255.1 = true then (if bt255.1 < (seen.length : Int) then (if rdOf false seen bt255.1 = true then (some false) else (escritoirelaw22_TurnsRound.l1 k l bt255.1 (c : Int) (seen.set (bt255.1 : Int).toNat true) (wrap64 ((i : Int) + 1)))) else (none)) else (some false)) else (none)) else (none)))) else (some false)) := by
      intro k
      simp only [escritoirelaw22_TurnsRound.l1]
      rw [if_pos (by omega)]
    refine Ev.step h0 (Ev.bind hn ?_)
    have h1 := ih (i + 1) (q : Int) (seen.set q true) t (don ++ [q]) (by omega) (by rw [List.length_set]; exact hs) (by rw [hpos, hturn, List.append_assoc]) (by simpa using hrem) (by
      intro r hr1 hr2
      rw [List.length_set] at hr1
      rw [List.getElem_set] at hr2
      by_cases e : q = r
      · subst e; simp
      · rw [if_neg e] at hr2
        exact List.mem_append_left _ (hsn r hr1 hr2))
    refine Ev.congr (fun k => ?_) h1
    simp only [if_true]
    rw [if_neg (by omega), if_neg (by omega), if_pos (by omega), if_pos (by omega), rdOf_lt l q hq, hqt, if_pos rfl, if_pos (by omega), rdOf_lt seen q (by omega), hsq, if_neg (by simp), wrap_id (by omega) (by omega), Int.toNat_natCast]
    rfl
theorem round_l0_ev (l : List Bool) (hl : l.length ≤ 40) (a : Int) : ∀ (d i n : Nat), i + d = l.length → n + (trues i (l.drop i)).length = (trues 0 l).length →
    Ev (fun k => escritoirelaw22_TurnsRound.l0 k l a (n : Int) (i : Int)) true := by
  have htl := trues_length_le l 0
  intro d
  induction d with
  | zero =>
    intro i n hi hn
    rw [List.drop_of_length_le (by omega)] at hn
    simp only [trues, List.length_nil, Nat.add_zero] at hn
    have h0 : ∀ k, escritoirelaw22_TurnsRound.l0 (k + 1) l a (n : Int) (i : Int) = escritoirelaw22_TurnsRound.l1 k l a (n : Int) (List.replicate l.length false) ((0 : Nat) : Int) := by
      intro k
      simp only [escritoirelaw22_TurnsRound.l0]
      rw [if_neg (by omega), if_pos (by omega), if_pos (by omega), Int.toNat_natCast]
      rfl
    refine Ev.step h0 (round_l1_ev l hl n hn n 0 a _ (ringT l (posS l a)) [] (by omega) (by simp) (by simp) (by rw [ringT_length l _ (posS_le l a)]; exact hn.symm) ?_)
    intro q hq h
    simp at h
  | succ d ih =>
    intro i n hi hn
    have hlt : i < l.length := by omega
    rw [drop_at l i hlt] at hn
    cases hb : l[i] with
    | true =>
      rw [hb] at hn
      simp only [trues, if_true, List.length_cons] at hn
      refine Ev.step (fun k => ?_) (ih (i + 1) (n + 1) (by omega) (by omega))
      simp only [escritoirelaw22_TurnsRound.l0]
      rw [if_pos (by omega), if_pos (by omega), rdOf_lt l i hlt, hb, if_pos rfl, wrap_id (by omega) (by omega), wrap_id (by omega) (by omega)]
      rfl
    | false =>
      rw [hb] at hn
      simp only [trues, Bool.false_eq_true, if_false] at hn
      refine Ev.step (fun k => ?_) (ih (i + 1) n (by omega) (by omega))
      simp only [escritoirelaw22_TurnsRound.l0]
      rw [if_pos (by omega), if_pos (by omega), rdOf_lt l i hlt, hb, if_neg (by simp), wrap_id (by omega) (by omega)]
      rfl
theorem TurnsRound : escritoirelaw22_TurnsRound.Pure := by
  intro l0 a1 hl ha
  have hm : mn (l0.length : Int) 40 = ((min l0.length 40 : Nat) : Int) := by unfold mn; split <;> omega
  have h1 := round_l0_ev (l0.take (min l0.length 40)) (by rw [List.length_take]; omega) a1 (l0.take (min l0.length 40)).length 0 0 (by omega) (by rw [List.drop_zero, Nat.zero_add])
  have hh : Ev (fun k => escritoirelaw22_TurnsRound.f k l0 a1) true := by
    unfold escritoirelaw22_TurnsRound.f
    refine Ev.bind lives_ev ?_
    simp only [if_true, hm]
    refine Ev.congr (fun k => ?_) h1
    rw [if_pos (by omega), if_pos (by omega), Int.toNat_natCast]
    rfl
  exact hh.rounds
end Go.Proofs.Ytjigomnmfhbjmaa.Pure
