/- A memory's words, one of them turned. -/
import Derived.Test.YtifdinoioddnlaaMemA
namespace Go.Proofs.Ytifdinoioddnlaa.Mem
open Go Go.RowKit Go.Proofs.Ytifdinoioddnlaa.ML
set_option linter.unusedVariables false
set_option linter.unusedSimpArgs false
def MS.set (S : MS) (i : Int) (c : Cell) : MS := { S with ws := S.ws.set i.toNat c }
theorem MS.set_len (S : MS) (i : Int) (c : Cell) : (S.set i c).ws.length = S.ws.length := by simp [MS.set]
theorem MS.set_at (S : MS) {i : Int} (c : Cell) (h0 : 0 ≤ i) (h1 : i < S.ws.length) (j : Int) (hj : 0 ≤ j) : (S.set i c).at j = if j = i then c else S.at j := by
  unfold MS.at MS.set
  simp only [List.getD_eq_getElem?_getD, List.getElem?_set]
  by_cases h : j = i
  · subst h
    rw [if_pos rfl, if_pos (by omega), if_pos rfl]
    rfl
  · rw [if_neg (by omega), if_neg h]
theorem MS.set_ok {S : MS} (h : S.Ok) (i : Int) {c : Cell} (hc : c.ok) : (S.set i c).Ok := by
  refine ⟨by rw [MS.set_len]; exact h.len, fun x hx => ?_, h.calls, h.til⟩
  rcases List.mem_or_eq_of_mem_set hx with hx | rfl
  · exact h.cells _ hx
  · exact hc
theorem pick_ext {g g' : Cell → Option Int} {r r' : List Cell} (hl : r.length = r'.length) (h : ∀ (i : Nat) (c c' : Cell), r[i]? = some c → r'[i]? = some c' → g c = g' c') (i : Int) : pick g i r = pick g' i r' := by
  refine ML.ext (pick_sorted _ _) (pick_sorted _ _) fun k => ?_
  rw [pick_get, pick_get]
  split
  · rcases Nat.lt_or_ge (k - i).toNat r.length with hlt | hge
    · have e := List.getElem?_eq_getElem hlt
      have e' := List.getElem?_eq_getElem (l := r') (by omega : (k - i).toNat < r'.length)
      rw [e, e']
      exact h _ _ _ e e'
    · rw [List.getElem?_eq_none hge, List.getElem?_eq_none (by omega)]
      rfl
  · rfl
theorem MS.set_get_loose (S : MS) {i : Int} (c : Cell) (h0 : 0 ≤ i) (h1 : i < S.ws.length) (k : Int) : get (S.set i c).looseM k = if k = i then c.loose else get S.looseM k := by
  have hl := S.set_len i c
  by_cases hk : 0 ≤ k ∧ k < S.ws.length
  · rw [MS.get_loose _ _ hk.1 (by omega), MS.set_at S c h0 h1 k hk.1, MS.get_loose _ _ hk.1 hk.2]
    split <;> rfl
  · rw [MS.get_loose_out _ _ (by omega), MS.get_loose_out _ _ (by omega), if_neg (by omega)]
theorem MS.set_get_way (S : MS) {i : Int} (c : Cell) (h0 : 0 ≤ i) (h1 : i < S.ws.length) (k : Int) : get (S.set i c).wayM k = if k = i then c.way else get S.wayM k := by
  have hl := S.set_len i c
  by_cases hk : 0 ≤ k ∧ k < S.ws.length
  · rw [MS.get_way _ _ hk.1 (by omega), MS.set_at S c h0 h1 k hk.1, MS.get_way _ _ hk.1 hk.2]
    split <;> rfl
  · rw [MS.get_way_out _ _ (by omega), MS.get_way_out _ _ (by omega), if_neg (by omega)]
theorem MS.loose_put (S : MS) {i : Int} (h0 : 0 ≤ i) (h1 : i < S.ws.length) (v : Int) (c : Cell) (hc : c.loose = some v) : put S.looseM i v = (S.set i c).looseM := by
  refine ML.ext (sorted_put (pick_sorted _ _) _ _) (pick_sorted _ _) fun k => ?_
  rw [MS.set_get_loose S c h0 h1, get_put, hc]
theorem MS.loose_del (S : MS) {i : Int} (h0 : 0 ≤ i) (h1 : i < S.ws.length) (c : Cell) (hc : c.loose = none) : del S.looseM i = (S.set i c).looseM := by
  refine ML.ext (sorted_del (pick_sorted _ _) _) (pick_sorted _ _) fun k => ?_
  rw [MS.set_get_loose S c h0 h1, get_del, hc]
theorem MS.way_put (S : MS) {i : Int} (h0 : 0 ≤ i) (h1 : i < S.ws.length) (v : Int) (c : Cell) (hc : c.way = some v) : put S.wayM i v = (S.set i c).wayM := by
  refine ML.ext (sorted_put (pick_sorted _ _) _ _) (pick_sorted _ _) fun k => ?_
  rw [MS.set_get_way S c h0 h1, get_put, hc]
theorem MS.way_del (S : MS) {i : Int} (h0 : 0 ≤ i) (h1 : i < S.ws.length) (c : Cell) (hc : c.way = none) : del S.wayM i = (S.set i c).wayM := by
  refine ML.ext (sorted_del (pick_sorted _ _) _) (pick_sorted _ _) fun k => ?_
  rw [MS.set_get_way S c h0 h1, get_del, hc]
theorem MS.loose_same (S : MS) {i : Int} (h0 : 0 ≤ i) (h1 : i < S.ws.length) (c : Cell) (hc : c.loose = (S.at i).loose) : (S.set i c).looseM = S.looseM := by
  refine ML.ext (pick_sorted _ _) (pick_sorted _ _) fun k => ?_
  rw [MS.set_get_loose S c h0 h1]
  by_cases hk : k = i
  · subst hk; rw [if_pos rfl, hc, MS.get_loose _ _ h0 h1]
  · rw [if_neg hk]
theorem MS.way_same (S : MS) {i : Int} (h0 : 0 ≤ i) (h1 : i < S.ws.length) (c : Cell) (hc : c.way = (S.at i).way) : (S.set i c).wayM = S.wayM := by
  refine ML.ext (pick_sorted _ _) (pick_sorted _ _) fun k => ?_
  rw [MS.set_get_way S c h0 h1]
  by_cases hk : k = i
  · subst hk; rw [if_pos rfl, hc, MS.get_way _ _ h0 h1]
  · rw [if_neg hk]
theorem MS.sures_same (S : MS) {i : Int} (h0 : 0 ≤ i) (h1 : i < S.ws.length) (c : Cell) (hc : c.sure = (S.at i).sure) : (S.set i c).sures = S.sures := by
  unfold MS.sures MS.set
  rw [List.map_set]
  refine List.ext_getElem? fun j => ?_
  rw [List.getElem?_set]
  split
  · rename_i hj
    subst hj
    rw [if_pos (by simp; omega), List.getElem?_map, List.getElem?_eq_getElem (by omega), hc]
    unfold MS.at
    rw [List.getD_eq_getElem?_getD, List.getElem?_eq_getElem (by omega)]
    rfl
  · rfl
/-- The struct and its row, behind a turn of one map. -/
theorem IsMem.struct_kept {w w' : World} {f : Fp} {S S' : MS} (h : IsMem w f S) {b : Nat} (ht : Turn [b] w w') (hb : b = f.bl ∨ b = f.bw) (hc : S'.calls = S.calls) (hti : S'.til = S.til) (hl : S'.ws.length = S.ws.length) (hs : S'.sures = S.sures) :
    ∃ A cap, w'.heap[f.p]? = some (.cells #[.slice A S'.ws.length cap, .map (some f.bl), .map (some f.bw), .int .i64 S'.calls, .int .i64 S'.til] 57 (0, 0)) ∧ IsRow w' f.bs A S'.ws.length cap S'.sures := by
  obtain ⟨A, cap, hp, h1, h2, h3, h4⟩ := h.row
  have nb : ∀ {c : Array Value} {el : TypeId} {fr : Nat × Nat} {q : Nat}, w.heap[q]? = some (.cells c el fr) → q ≠ b := by
    intro c el fr q hq
    rcases hb with rfl | rfl
    · exact h.loose.ne_cells hq
    · exact h.way.ne_cells hq
  rw [hc, hti, hl, hs]
  refine ⟨A, cap, (ht.block _ (Array.getElem?_eq_some_iff.1 hp).1 (by simpa using nb hp)).trans hp, h1, h2, h3, fun h0 => ?_⟩
  obtain ⟨hA, cur, hcu, h5, h6⟩ := h4 h0
  exact ⟨hA, cur, (ht.block _ (Array.getElem?_eq_some_iff.1 hcu).1 (by simpa using nb hcu)).trans hcu, h5, h6⟩
theorem IsMem.turnLoose {w w' : World} {f : Fp} {S S' : MS} (h : IsMem w f S) (ht : w.mapTurned w' f.bl) (hm : IsM ek 3 w' f.bl S'.looseM) (hok : S'.Ok) (hc : S'.calls = S.calls) (hti : S'.til = S.til) (hl : S'.ws.length = S.ws.length) (hs : S'.sures = S.sures) (hw : S'.wayM = S.wayM) : IsMem w' f S' ∧ Turn [f.bl] w w' := by
  have htn := Turn.of_grown (turned_of ht)
  refine ⟨⟨hok, h.struct_kept htn (.inl rfl) hc hti hl hs, hm, ?_, h.ne, Nat.lt_of_lt_of_le h.lt htn.size⟩, htn⟩
  rw [hw]
  exact h.way.block (htn.block _ h.way.lt (by simpa using Ne.symm h.ne))
theorem IsMem.turnWay {w w' : World} {f : Fp} {S S' : MS} (h : IsMem w f S) (ht : w.mapTurned w' f.bw) (hm : IsM ek 3 w' f.bw S'.wayM) (hok : S'.Ok) (hc : S'.calls = S.calls) (hti : S'.til = S.til) (hl : S'.ws.length = S.ws.length) (hs : S'.sures = S.sures) (hw : S'.looseM = S.looseM) : IsMem w' f S' ∧ Turn [f.bw] w w' := by
  have htn := Turn.of_grown (turned_of ht)
  refine ⟨⟨hok, h.struct_kept htn (.inr rfl) hc hti hl hs, ?_, hm, h.ne, Nat.lt_of_lt_of_le h.lt htn.size⟩, htn⟩
  rw [hw]
  exact h.loose.block (htn.block _ h.loose.lt (by simpa using h.ne))
/-- A sure word is written. -/
theorem IsMem.setSure {w : World} {f : Fp} {S : MS} (h : IsMem w f S) (i : Int) (h0 : 0 ≤ i) (h1 : i < S.ws.length) (v : Int) (hv : okw v) :
    IsMem (w.setCell ⟨f.bs, i.toNat, none⟩ (.int .u64 v)) f (S.set i ⟨v, (S.at i).loose, (S.at i).way⟩) ∧ Turn [f.bs] w (w.setCell ⟨f.bs, i.toNat, none⟩ (.int .u64 v)) := by
  obtain ⟨A, cap, hp, r1, r2, r3, r4⟩ := h.row
  have ht := Turn.setCell w ⟨f.bs, i.toNat, none⟩ (.int .u64 v)
  obtain ⟨hA, cur, hcu, h5, h6⟩ := r4 (by omega)
  have hs := heap_set_same (o := i.toNat) (.int .u64 v) hcu
  have hl := h.loose.ne_cells hcu
  have hw := h.way.ne_cells hcu
  have hb : ∀ b, b ≠ f.bs → (w.setCell ⟨f.bs, i.toNat, none⟩ (.int .u64 v)).heap[b]? = w.heap[b]? := fun b hb => Below.heap_setCell w _ _ b hb
  have hpb : f.p ≠ f.bs := by
    intro e
    rw [e, hcu] at hp
    injection hp with hp
    injection hp with _ hp
    exact absurd hp (by decide)
  refine ⟨⟨MS.set_ok h.ok i ⟨hv, (h.ok.at i).2⟩, ⟨A, cap, ?_, ?_⟩, ?_, ?_, h.ne, Nat.lt_of_lt_of_le h.lt ht.size⟩, ht⟩
  · rw [MS.set_len]
    exact (hb _ hpb).trans hp
  · rw [MS.set_len]
    refine ⟨r1, r2, by simp [MS.sures, MS.set], fun _ => ⟨hA, _, hs, by simpa using h5, ?_⟩⟩
    have e1 : (S.set i ⟨v, (S.at i).loose, (S.at i).way⟩).sures = S.sures.set i.toNat (.int .u64 v) := by simp [MS.sures, MS.set, List.map_set]
    rw [e1, ← h6]
    simp [List.take_set]
  · rw [MS.loose_same S h0 h1 ⟨v, (S.at i).loose, (S.at i).way⟩ rfl]
    exact h.loose.block (hb _ (Ne.symm hl))
  · rw [MS.way_same S h0 h1 ⟨v, (S.at i).loose, (S.at i).way⟩ rfl]
    exact h.way.block (hb _ (Ne.symm hw))
theorem Turn.of_mem {f : Fp} {b : Nat} {w w' : World} (h : Turn [b] w w') (hb : b = f.p ∨ b = f.bs ∨ b = f.bl ∨ b = f.bw) : Turn f.list w w' :=
  h.mono fun x hx => .inl (by simp [Fp.list] at hx ⊢; omega)
theorem MS.set_set (S : MS) (i : Int) (c d : Cell) : (S.set i c).set i d = S.set i d := by simp [MS.set]
theorem MS.set_at_same (S : MS) {i : Int} (c : Cell) (h0 : 0 ≤ i) (h1 : i < S.ws.length) : (S.set i c).at i = c := by rw [MS.set_at S c h0 h1 i h0, if_pos rfl]
theorem IsMem.putLoose {w w' : World} {f : Fp} {S : MS} (h : IsMem w f S) {i v : Int} (h0 : 0 ≤ i) (h1 : i < S.ws.length) (hv : okw v) (ht : w.mapTurned w' f.bl) (hm : IsM ek 3 w' f.bl (put S.looseM i v)) :
    IsMem w' f (S.set i ⟨(S.at i).sure, some v, (S.at i).way⟩) ∧ Turn f.list w w' := by
  have r := h.turnLoose (S' := S.set i ⟨(S.at i).sure, some v, (S.at i).way⟩) ht (by rw [← MS.loose_put S h0 h1 v _ rfl]; exact hm) (MS.set_ok h.ok i ⟨(h.ok.at i).1, (fun _ e => by cases e; exact hv), (h.ok.at i).2.2⟩) rfl rfl (MS.set_len _ _ _) (MS.sures_same _ h0 h1 _ rfl) (MS.way_same _ h0 h1 _ rfl)
  exact ⟨r.1, r.2.of_mem (.inr (.inr (.inl rfl)))⟩
theorem IsMem.delLoose {w w' : World} {f : Fp} {S : MS} (h : IsMem w f S) {i : Int} (h0 : 0 ≤ i) (h1 : i < S.ws.length) (ht : w.mapTurned w' f.bl) (hm : IsM ek 3 w' f.bl (del S.looseM i)) :
    IsMem w' f (S.set i ⟨(S.at i).sure, none, (S.at i).way⟩) ∧ Turn f.list w w' := by
  have r := h.turnLoose (S' := S.set i ⟨(S.at i).sure, none, (S.at i).way⟩) ht (by rw [← MS.loose_del S h0 h1 _ rfl]; exact hm) (MS.set_ok h.ok i ⟨(h.ok.at i).1, (fun _ e => by cases e), (h.ok.at i).2.2⟩) rfl rfl (MS.set_len _ _ _) (MS.sures_same _ h0 h1 _ rfl) (MS.way_same _ h0 h1 _ rfl)
  exact ⟨r.1, r.2.of_mem (.inr (.inr (.inl rfl)))⟩
theorem IsMem.putWay {w w' : World} {f : Fp} {S : MS} (h : IsMem w f S) {i v : Int} (h0 : 0 ≤ i) (h1 : i < S.ws.length) (hv : okw v) (ht : w.mapTurned w' f.bw) (hm : IsM ek 3 w' f.bw (put S.wayM i v)) :
    IsMem w' f (S.set i ⟨(S.at i).sure, (S.at i).loose, some v⟩) ∧ Turn f.list w w' := by
  have r := h.turnWay (S' := S.set i ⟨(S.at i).sure, (S.at i).loose, some v⟩) ht (by rw [← MS.way_put S h0 h1 v _ rfl]; exact hm) (MS.set_ok h.ok i ⟨(h.ok.at i).1, (h.ok.at i).2.1, (fun _ e => by cases e; exact hv)⟩) rfl rfl (MS.set_len _ _ _) (MS.sures_same _ h0 h1 _ rfl) (MS.loose_same _ h0 h1 _ rfl)
  exact ⟨r.1, r.2.of_mem (.inr (.inr (.inr rfl)))⟩
theorem IsMem.delWay {w w' : World} {f : Fp} {S : MS} (h : IsMem w f S) {i : Int} (h0 : 0 ≤ i) (h1 : i < S.ws.length) (ht : w.mapTurned w' f.bw) (hm : IsM ek 3 w' f.bw (del S.wayM i)) :
    IsMem w' f (S.set i ⟨(S.at i).sure, (S.at i).loose, none⟩) ∧ Turn f.list w w' := by
  have r := h.turnWay (S' := S.set i ⟨(S.at i).sure, (S.at i).loose, none⟩) ht (by rw [← MS.way_del S h0 h1 _ rfl]; exact hm) (MS.set_ok h.ok i ⟨(h.ok.at i).1, (h.ok.at i).2.1, (fun _ e => by cases e)⟩) rfl rfl (MS.set_len _ _ _) (MS.sures_same _ h0 h1 _ rfl) (MS.loose_same _ h0 h1 _ rfl)
  exact ⟨r.1, r.2.of_mem (.inr (.inr (.inr rfl)))⟩
end Go.Proofs.Ytifdinoioddnlaa.Mem
