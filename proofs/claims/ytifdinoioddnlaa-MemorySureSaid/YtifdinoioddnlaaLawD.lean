/- Memories that are stored into, flushed and fenced. -/
import Derived.Handy
import Derived.Test.YtifdinoioddnlaaLawC
namespace Go.Proofs.Ytifdinoioddnlaa.Mem
open Go Go.RowKit Go.Proofs.Ytifdinoioddnlaa.ML Go.Proofs.YtifdinoioddnlaaW.PrintWords Go.Proofs.YtifdinoioddnlaaW.PrintLast Go.Proofs.YtifdinoioddnlaaW.PrintMore Go.Proofs.Ytifdinoioddnlaa.Print
set_option linter.unusedVariables false
set_option linter.unusedSimpArgs false
/-- A memory that was only stored into. -/
structure Fresh (S : MS) : Prop where
  len : S.ws.length = 30
  til : S.til = -1
  cell : ∀ i : Int, 0 ≤ i → i < 30 → (S.at i).sure = 0 ∧ (S.at i).way = none
theorem call_run {S : MS} (h : S.til = -1) (b : Bool) : S.call b = (if b then 0 else 1, { S with calls := wrap64 (S.calls + 1) }) := by
  unfold MS.call
  rw [if_neg (by omega), if_neg (by omega)]
theorem Fresh.store {S S' : MS} {o : S40} {q : Int} (h : Fresh S) (hd : Does S o q S') (hk : kindOf o.f0 = 0) : Fresh S' := by
  have he := hd.s0 hk
  unfold MS.store at he
  simp only [] at he
  rw [call_run h.til] at he
  simp only [] at he
  by_cases hb : S.has o.f1 = true
  · rw [hb, if_pos rfl] at he
    simp only [if_true] at he
    obtain ⟨rfl, rfl⟩ := Prod.mk.inj he
    obtain ⟨h0, h1⟩ := (S.has_iff _).1 hb
    have hl := h.len
    refine ⟨by rw [MS.set_len]; exact h.len, h.til, fun i i0 i1 => ?_⟩
    rw [MS.set_at _ _ h0 (by simp only []; omega) i i0]
    split
    · rename_i e
      subst e
      exact h.cell _ i0 i1
    · exact h.cell i i0 i1
  · have hb' : S.has o.f1 = false := by simpa using hb
    rw [hb'] at he
    simp only [Bool.false_eq_true, if_false] at he
    rw [if_neg (by decide)] at he
    obtain ⟨rfl, rfl⟩ := Prod.mk.inj he
    exact ⟨h.len, h.til, h.cell⟩
/-- How far the flushing has come. -/
structure FlTo (S : MS) (j : Int) (S' : MS) : Prop where
  len : S'.ws.length = 30
  til : S'.til = -1
  cell : ∀ i : Int, 0 ≤ i → i < 30 → (S'.at i).sure = 0 ∧ (S'.at i).loose = (S.at i).loose ∧ ((S'.at i).way = none ∨ (S'.at i).way = (S.at i).loose) ∧ (i < j → (S'.at i).way = (S.at i).loose)
theorem FlTo.start {S : MS} (h : Fresh S) : FlTo S 0 S := ⟨h.len, h.til, fun i i0 i1 => ⟨(h.cell i i0 i1).1, rfl, .inl (h.cell i i0 i1).2, fun hlt => by omega⟩⟩
theorem FlTo.step {S S' : MS} {j : Int} (h : FlTo S j S') (h0 : 0 ≤ j) (h1 : j < 30) : (S'.flush j).1 = 0 ∧ FlTo S (j + 1) (S'.flush j).2 := by
  have hl := h.len
  have hb : S'.has j = true := (S'.has_iff j).2 ⟨h0, by omega⟩
  have he : S'.flush j = (0, ({ S' with calls := wrap64 (S'.calls + 1) } : MS).flushTo (j - j % 8) (j - j % 8 + 8)) := by
    unfold MS.flush
    simp only []
    rw [hb, call_run h.til]
    rfl
  rw [he]
  refine ⟨rfl, by rw [MS.flushTo_len]; exact h.len, h.til, fun i i0 i1 => ?_⟩
  rw [MS.flushTo_at _ _ _ i0 (by simp only []; omega)]
  obtain ⟨c1, c2, c3, c4⟩ := h.cell i i0 i1
  have c2' : (({ S' with calls := wrap64 (S'.calls + 1) } : MS).at i) = S'.at i := rfl
  rw [c2']
  by_cases hin : j - j % 8 ≤ i ∧ i < j - j % 8 + 8
  · rw [if_pos hin]
    unfold Cell.flushed
    simp only []
    have hw : (if (S'.at i).loose.isSome = true then (S'.at i).loose else (S'.at i).way) = (S.at i).loose := by
      rw [c2]
      cases hc : (S.at i).loose with
      | some v => simp
      | none => rw [hc] at c3; simp; rcases c3 with c3 | c3 <;> exact c3
    exact ⟨c1, c2, .inr hw, fun _ => hw⟩
  · rw [if_neg hin]
    exact ⟨c1, c2, c3, fun hlt => c4 (by omega)⟩
theorem keys_eq {S S' : MS} (hl : S'.ws.length = S.ws.length) (h : ∀ i : Int, 0 ≤ i → i < S.ws.length → (S'.at i).loose = (S.at i).loose) : S'.keys = S.keys := by
  unfold MS.keys MS.looseM
  rw [pick_ext (r := S'.ws) (r' := S.ws) hl fun i c c' h1 h2 => ?_]
  have hi := (List.getElem?_eq_some_iff.1 h2).1
  have := h (i : Int) (by omega) (by omega)
  unfold MS.at at this
  rw [List.getD_eq_getElem?_getD, List.getD_eq_getElem?_getD, Int.toNat_natCast, h1, h2] at this
  exact this
theorem FlTo.keys {S S' : MS} {j : Int} (h : FlTo S j S') (hS : S.ws.length = 30) : S'.keys = S.keys := keys_eq (h.len.trans hS.symm) fun i i0 i1 => (h.cell i i0 (by omega)).2.1
theorem FlTo.fence {S S' : MS} {j : Int} (h : FlTo S j S') (hj : 30 ≤ j) : S'.fence.1 = 0 ∧ S'.fence.2.ws.length = 30 ∧ ∀ i : Int, 0 ≤ i → i < 30 → S'.fence.2.at i = ⟨(S'.at i).now, none, none⟩ := by
  have he : S'.fence = (0, ({ S' with calls := wrap64 (S'.calls + 1) } : MS).mapI fun _ c => c.fenced) := by
    unfold MS.fence
    simp only []
    rw [call_run h.til]
    rfl
  rw [he]
  have hl := h.len
  refine ⟨rfl, by rw [MS.mapI_len]; exact h.len, fun i i0 i1 => ?_⟩
  rw [MS.mapI_at _ _ i0 (by simp only []; omega)]
  have c2' : (({ S' with calls := wrap64 (S'.calls + 1) } : MS).at i) = S'.at i := rfl
  rw [c2']
  obtain ⟨c1, c2, c3, c4⟩ := h.cell i i0 i1
  have hw := (c4 (by omega)).trans c2.symm
  generalize S'.at i = c at hw c1
  obtain ⟨a, b, d⟩ := c
  simp only [] at hw c1
  subst hw
  cases d with
  | none => simp [Cell.fenced, Cell.now]
  | some v => simp [Cell.fenced, Cell.now]
theorem FlTo.step8 {S S' : MS} {j : Int} (h : FlTo S j S') (h0 : 0 ≤ j) (h1 : j < 30) (h8 : j % 8 = 0) : (S'.flush j).1 = 0 ∧ FlTo S (j + 8) (S'.flush j).2 := by
  have hl := h.len
  have hb : S'.has j = true := (S'.has_iff j).2 ⟨h0, by omega⟩
  have he : S'.flush j = (0, ({ S' with calls := wrap64 (S'.calls + 1) } : MS).flushTo j (j + 8)) := by
    unfold MS.flush
    simp only []
    rw [hb, call_run h.til]
    simp only [if_true]
    rw [show j - j % 8 = j from by omega]
  rw [he]
  refine ⟨rfl, by rw [MS.flushTo_len]; exact h.len, h.til, fun i i0 i1 => ?_⟩
  rw [MS.flushTo_at _ _ _ i0 (by simp only []; omega)]
  obtain ⟨c1, c2, c3, c4⟩ := h.cell i i0 i1
  have c2' : (({ S' with calls := wrap64 (S'.calls + 1) } : MS).at i) = S'.at i := rfl
  rw [c2']
  by_cases hin : j ≤ i ∧ i < j + 8
  · rw [if_pos hin]
    unfold Cell.flushed
    simp only []
    have hw : (if (S'.at i).loose.isSome = true then (S'.at i).loose else (S'.at i).way) = (S.at i).loose := by
      rw [c2]
      cases hc : (S.at i).loose with
      | some v => simp
      | none => rw [hc] at c3; simp; rcases c3 with c3 | c3 <;> exact c3
    exact ⟨c1, c2, .inr hw, fun _ => hw⟩
  · rw [if_neg hin]
    exact ⟨c1, c2, c3, fun hlt => c4 (by omega)⟩
/-- Behind the fence, with some stores and flushes more: which words were stored, and what. -/
structure Later (T : MS) (st : Int → Bool) (la : Int → Int) (U : MS) : Prop where
  len : U.ws.length = 30
  til : U.til = -1
  cell : ∀ i : Int, 0 ≤ i → i < 30 → (U.at i).sure = (T.at i).sure ∧ (U.at i).loose = if st i then some (la i) else none
theorem Later.does {T U U' : MS} {st : Int → Bool} {la : Int → Int} {o : S40} {q : Int} (h : Later T st la U) (hd : Does U o q U') (hk : kindOf o.f0 ≤ 1) :
    Later T (fun i => if kindOf o.f0 = 0 ∧ 0 ≤ o.f1 ∧ o.f1 < 30 ∧ i = o.f1 then true else st i) (fun i => if kindOf o.f0 = 0 ∧ 0 ≤ o.f1 ∧ o.f1 < 30 ∧ i = o.f1 then o.f2 else la i) U' := by
  obtain ⟨k0, k1⟩ := kindOf_lt o.f0
  have hl := h.len
  rcases (show kindOf o.f0 = 0 ∨ kindOf o.f0 = 1 by omega) with e | e
  · have he := hd.s0 e
    unfold MS.store at he
    simp only [] at he
    rw [call_run h.til] at he
    simp only [] at he
    by_cases hb : U.has o.f1 = true
    · rw [hb, if_pos rfl] at he
      simp only [if_true] at he
      obtain ⟨rfl, rfl⟩ := Prod.mk.inj he
      obtain ⟨h0, h1⟩ := (U.has_iff _).1 hb
      refine ⟨by rw [MS.set_len]; exact h.len, h.til, fun i i0 i1 => ?_⟩
      rw [MS.set_at _ _ h0 (by simp only []; omega) i i0]
      by_cases hi : i = o.f1
      · have hcc : kindOf o.f0 = 0 ∧ 0 ≤ o.f1 ∧ o.f1 < 30 ∧ i = o.f1 := ⟨e, h0, by omega, hi⟩
        rw [if_pos hi]
        simp only [if_pos hcc, if_true]
        subst hi
        exact ⟨(h.cell _ i0 i1).1, trivial⟩
      · have hcc : ¬ (kindOf o.f0 = 0 ∧ 0 ≤ o.f1 ∧ o.f1 < 30 ∧ i = o.f1) := fun h => hi h.2.2.2
        rw [if_neg hi]
        simp only [if_neg hcc]
        exact h.cell i i0 i1
    · have hb' : U.has o.f1 = false := by simpa using hb
      rw [hb'] at he
      simp only [Bool.false_eq_true, if_false] at he
      rw [if_neg (by decide)] at he
      obtain ⟨rfl, rfl⟩ := Prod.mk.inj he
      have hn := (U.has_false _).1 hb'
      refine ⟨h.len, h.til, fun i i0 i1 => ?_⟩
      have hcc : ¬ (kindOf o.f0 = 0 ∧ 0 ≤ o.f1 ∧ o.f1 < 30 ∧ i = o.f1) := fun h => hn ⟨h.2.1, by omega⟩
      simp only [if_neg hcc]
      exact h.cell i i0 i1
  · have he := hd.s1 e
    unfold MS.flush at he
    simp only [] at he
    rw [call_run h.til] at he
    simp only [] at he
    have hne : ∀ i, ¬ (kindOf o.f0 = 0 ∧ 0 ≤ o.f1 ∧ o.f1 < 30 ∧ i = o.f1) := fun i h => by omega
    have hU' : U'.ws.length = 30 ∧ U'.til = -1 ∧ ∀ i : Int, 0 ≤ i → i < 30 → (U'.at i).sure = (U.at i).sure ∧ (U'.at i).loose = (U.at i).loose := by
      split at he
      · obtain ⟨_, rfl⟩ := Prod.mk.inj he
        refine ⟨by rw [MS.flushTo_len]; exact h.len, h.til, fun i i0 i1 => ?_⟩
        rw [MS.flushTo_at _ _ _ i0 (by simp only []; omega)]
        split <;> exact ⟨rfl, rfl⟩
      · obtain ⟨_, rfl⟩ := Prod.mk.inj he
        exact ⟨h.len, h.til, fun i _ _ => ⟨rfl, rfl⟩⟩
    refine ⟨hU'.1, hU'.2.1, fun i i0 i1 => ?_⟩
    simp only [if_neg (hne i)]
    rw [(hU'.2.2 i i0 i1).1, (hU'.2.2 i i0 i1).2]
    exact h.cell i i0 i1
/-- What a word is behind the crash. -/
theorem Later.crash {T U V : MS} {st : Int → Bool} {la : Int → Int} {keep : List Bool} (h : Later T st la U) (hc : Crashed U keep V) (i : Int) (h0 : 0 ≤ i) (h1 : i < 30) :
    V.read i = (T.at i).sure ∨ (st i = true ∧ V.read i = la i) := by
  obtain ⟨c1, c2⟩ := h.cell i h0 h1
  have hl := h.len
  rcases hc.read i h0 (by omega) with e | e
  · left; rw [e, c1]
  · by_cases hs : st i = true
    · right
      refine ⟨hs, ?_⟩
      rw [e, Cell.now, c2, if_pos hs]
      rfl
    · left
      rw [e, Cell.now, c2, if_neg hs]
      exact c1
end Go.Proofs.Ytifdinoioddnlaa.Mem
